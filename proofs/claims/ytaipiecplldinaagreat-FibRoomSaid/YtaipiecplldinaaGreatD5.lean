/- Part of a proof. -/
import Derived.Test.YtaipiecplldinaaGreatD4
import Derived.Test.YtaipiecplldinaaGreatD3
import Derived.Test.YtaipiecplldinaaGreatD1
import Derived.Test.YtaipiecplldinaaGreatD2
set_option maxRecDepth 20000
set_option linter.unusedSimpArgs false
set_option linter.unusedVariables false
namespace Go.Proofs.YtaipiecplldinaaGreat
open Go.aC Go.Kb
open Go.RowKit
theorem CF(w:World):(Instr.build 50 #[(3, .bool true)]).run Tryz.prog w= .ok (.agg (br bj)) w:=by kernel_rfl
theorem Wr(w:World)(xb:Nat)(xc:Cp)(xa:Sl Int)(xg:UInt64)(xl:Int)(xy:Bool)(l:Sl (Sl Int))(dL:w.heap[xb]? =Option.some (.cells (aL (⟨⟨xc,xa,xg,xl⟩,xy⟩:aP)) 141 (0,0)))(dU:Deep.aY (hp w) xc)(hl:Deep.aY (hp w) l)(bb:qe (cv xc) (aw l.xs)):Calls Tryz.prog 165 #[.pointer (some ⟨xb,0,none⟩),l.sv.val] w fun e w'=> ∃zz:Sv,e= .returned (zz.val)∧(True)∧Mem w [own br 4 zz (av (cv xc) (aw l.xs))] w':=by
 have sB:pF w xb (aL (⟨⟨xc,xa,xg,xl⟩,xy⟩:aP)) 141:=⟨dL⟩
 have sC:cg w xc:=⟨dU⟩
 have oM:cg w l:=⟨hl⟩
 refine ba (args:=[_,_]) Tryz.func165 rfl Tryz.ntmps165 rfl ?_
 change Cw _ _ _ _ _ [(0, .pointer (some ⟨xb,0,none⟩)),(1,l.sv.val)] []
 refine Gc ?_
 refine Gs ?_
 refine Gc ?_
 iterate 4 refine Gs ?_
 refine ag (Ry.to (v':= .agg (aB xc)) (Vh rfl) rfl) ?_
 refine Gs ?_
 refine bq rfl (by assumption) fun Gx ahC=> ?_
 have yI:(iD (cv xc) (aw l.xs)).length=(cv xc).blocks.length -2:=by rw[iD,wI]
 have gX:=jI.1 (eU.1 bb.1.1).1
 have oK: ∀i,i≤(iD (cv xc) (aw l.xs)).length→(((iD (cv xc) (aw l.xs)).take i).map nc++(iD (cv xc) (aw l.xs)).drop i).length=(iD (cv xc) (aw l.xs)).length:=fun i hi=>by rw[List.length_append,List.length_map,List.length_take,List.length_drop];omega
 refine Gs ?_
 refine Gc ?_
 iterate 3 refine Gs ?_
 refine Gc ?_
 refine ca (X:=Nat) (fun zz=>[(16, .int .i64 (zz:Nat)),(5,Gx.val),(15, .int .i64 ((iD (cv xc) (aw l.xs)).length:Nat))]) (fun zz=>[own br 4 Gx (((iD (cv xc) (aw l.xs)).take zz).map nc++(iD (cv xc) (aw l.xs)).drop zz)]) (fun zz=>zz≤(iD (cv xc) (aw l.xs)).length) (fun zz=>(iD (cv xc) (aw l.xs)).length -zz) 0 (Nat.zero_le _) (Sub.cons rfl (Sub.cons rfl (Sub.cons rfl (Sub.nil _)))) (fun w hw=>by simp only[List.take_zero,List.map_nil,List.nil_append,List.drop_zero];exact ah.mem hw) ?_
 rintro i bh
 have nP:=oK i bh
 refine Gc ?_
 refine Gs ?_
 refine Gc ?_
 refine au rfl (fun h0=> ?_) (fun h0=> ?_)
 ·
  replace h0:=bz h0
  obtain⟨z,hz⟩:=get_some (xs:=(iD (cv xc) (aw l.xs))) (i:=i) (by omega)
  have zD:=KM (f:=nc) hz
  refine Gc ?_
  iterate 2 refine Gs ?_
  refine Gc ?_
  iterate 2 refine Gs ?_
  refine ag (bg rfl rfl i rfl (by omega)) ?_
  refine ag (aH rfl rfl) ?_
  refine ag (bL (j:=3) rfl i zD rfl (by decide)) ?_
  refine Gc ?_
  refine au rfl (fun h1=> ?_) (fun h1=> ?_)
  ·
   replace h1:=bz h1
   have hf:nc z=bj:=by rw[nc,if_pos h1]
   refine Gi ?_
   iterate 2 refine Gs ?_
   refine ag (cR (v:= .agg (br bj)) rfl CF) ?_
   refine ag (bg rfl rfl i rfl (by omega)) ?_
   refine kO (n:=4) (k:=i) (j:=0) (a:=z) (a':=bj) (xs:=(((iD (cv xc) (aw l.xs)).take i).map nc++(iD (cv xc) (aw l.xs)).drop i)) (enc:=br) (c:=4) (v:= .agg (br bj)) (by kernel_rfl) rfl rfl rfl zD (bu.one (enc:=br) (c:=4) _) rfl (by decide) (by rfl) ?_
   refine Gc ?_
   iterate 2 refine Gs ?_
   refine Gi ?_
   exact bx (x:=(i)) (i+1) (by first|omega|(simp only[];omega)) (by first|omega|(simp only[];omega)) (Sub.cons rfl (Sub.cons rfl (Sub.cons rfl (Sub.nil _)))) (fun w hw=>by rw[←KK hz,hf];exact ah.mem hw)
  ·
   replace h1:=bz h1
   have hf:nc z=z:=by rw[nc,if_neg (by rw[h1];simp)]
   refine Gc ?_
   iterate 2 refine Gs ?_
   refine Gi ?_
   exact bx (x:=(i)) (i+1) (by first|omega|(simp only[];omega)) (by first|omega|(simp only[];omega)) (Sub.cons rfl (Sub.cons rfl (Sub.cons rfl (Sub.nil _)))) (fun w hw=>by rw[←KL hz hf];exact ah.mem hw)
 ·
  replace h0:=bz h0
  obtain rfl:i=(iD (cv xc) (aw l.xs)).length:=by omega
  have hE:av (cv xc) (aw l.xs)=(((iD (cv xc) (aw l.xs)).take (iD (cv xc) (aw l.xs)).length).map nc++(iD (cv xc) (aw l.xs)).drop (iD (cv xc) (aw l.xs)).length):=by rw[av,List.take_length,List.drop_length,List.append_nil]
  refine Gc ?_
  iterate 2 refine Gs ?_
  refine Gc ?_
  refine aq (.inl rfl) (aI rfl (ak rfl)) (fun w1 hw=> ?_)
  exact⟨Gx,rfl,trivial,by rw[hE];exact ah.mem hw⟩
instance Gy{w0:World}{L:List ai}{xb:Nat}{xc:Cp}{xa:Sl Int}{xg:UInt64}{xl:Int}{xy:Bool}{l:Sl (Sl Int)}[dL:lz w0 L xb (aL (⟨⟨xc,xa,xg,xl⟩,xy⟩:aP)) 141][dU:aU w0 L xc][hl:aU w0 L l]:cl Tryz.prog 165 w0 L [.pointer (some ⟨xb,0,none⟩),l.sv.val] (Sv) (fun zz=>zz.val) (fun zz=>own br 4 zz (av (cv xc) (aw l.xs))::L) (fun zz=>True) (qe (cv xc) (aw l.xs)):=⟨fun hp w hw=>(Wr w xb xc xa xg xl xy l (dL.h w hw) (dU.h w hw) (hl.h w hw) hp).mono fun e w' ⟨x,h1,h2,h3⟩=>⟨x,h1,h2,hw.call h3⟩⟩
theorem Ws(w:World)(s:Sv)(ss:List ax)(hs:bQ br 4 (hp w) s ss)(bb:ss.length≤1000000):Calls Tryz.prog 180 #[s.val] w fun e w'=> ∃zz:Sv,e= .returned (zz.val)∧(True)∧Mem w [own br 4 zz ss] w':=by
 have ve:Gv w s br 4 ss:=⟨hs⟩
 refine ba (args:=[_]) Tryz.func180 rfl Tryz.ntmps180 rfl ?_
 change Cw _ _ _ _ _ [(0,s.val)] []
 refine Gc ?_
 refine Gs ?_
 refine Gc ?_
 refine Gs ?_
 refine ag (rX Tryz.underlying43 rfl) ?_
 refine Gc ?_
 refine au rfl (fun h0=> ?_) (fun h0=> ?_)
 ·
  replace h0:=bz h0
  have e0:ss=[]:=List.length_eq_zero_iff.1 (by have:=hs.ok.nil h0;have:=hs.len;omega)
  refine Gc ?_
  refine Gs ?_
  refine Gc ?_
  refine aq (.inl rfl) (aI rfl (ak rfl)) (fun w1 hw=> ?_)
  exact⟨Sv.none,rfl,trivial,by rw[e0];exact(ah.mem hw:Mem w [] _).dP br 4⟩
 ·
  replace h0:=bz h0
  refine Gc ?_
  refine tc br fun b5=> ?_
  refine Gs ?_
  refine mg (s:=⟨false,b5,0,0,0,none⟩) (enc:=br) (ys:=ss) rfl rfl (by decide) (fun w hw=>kN (s:=s) Tryz.underlying43 (by decide) ((inferInstance:c0 _ _ br 4 s ss).h w hw)) (by simp only[List.length_nil];omega) (by simp only[List.length_nil];omega) fun s7 vf tF=> ?_
  refine Gs ?_
  refine Gc ?_
  refine aq (.inl rfl) (aI rfl (ak rfl)) (fun w1 hw=> ?_)
  exact⟨s7,rfl,trivial,by rw[List.nil_append]at hw;exact ah.mem hw⟩
instance ahD{w0:World}{L:List ai}{s:Sv}{ss:List ax}[hs:c0 w0 L br 4 s ss]:cl Tryz.prog 180 w0 L [s.val] (Sv) (fun zz=>zz.val) (fun zz=>own br 4 zz ss::L) (fun zz=>True) (ss.length≤1000000):=⟨fun hp w hw=>(Ws w s ss (hs.h w hw) hp).mono fun e w' ⟨x,h1,h2,h3⟩=>⟨x,h1,h2,hw.call h3⟩⟩
theorem Wt(w:World)(f:FuncId)(jQ:Array Value)(R:ax→Bool)(hr:qy Tryz.prog w [] f jQ br R)(l:Sv)(ls:List ax)(hl:bQ br 4 (hp w) l ls)(bb:ls.length≤1000000):Calls Tryz.prog 169 #[l.val, .func (.func f) #[] jQ] w fun e w'=> ∃zz:Sv,e= .returned (zz.val)∧(True)∧Mem w [own br 4 zz (bR R ls)] w':=by
 have oM:Gv w l br 4 ls:=⟨hl⟩
 have Vw:=hr.fn
 have oK: ∀i,i≤ls.length→((ls.take i).map (gJ R)++ls.drop i).length=ls.length:=fun i hi=>by rw[List.length_append,List.length_map,List.length_take,List.length_drop];omega
 refine ba (args:=[_,_]) Tryz.func169 rfl Tryz.ntmps169 rfl ?_
 change Cw _ _ _ _ _ [(0,l.val),(1, .func (.func f) #[] jQ)] []
 refine Gc ?_
 refine Gs ?_
 refine Gc ?_
 refine Gs ?_
 refine bq rfl (by omega) fun x9 zt=> ?_
 refine Gs ?_
 refine Gc ?_
 iterate 3 refine Gs ?_
 refine Gc ?_
 refine ca (X:=Nat) (fun zz=>[(12, .int .i64 (zz:Nat)),(5,x9.val),(10,x9.val),(1, .func (.func f) #[] jQ),(11, .int .i64 (ls.length:Nat))]) (fun zz=>[own br 4 x9 ((ls.take zz).map (gJ R)++ls.drop zz)]) (fun zz=>zz≤ls.length) (fun zz=>ls.length -zz) 0 (Nat.zero_le _) (Sub.cons rfl (Sub.cons rfl (Sub.cons rfl (Sub.cons rfl (Sub.cons rfl (Sub.nil _)))))) (fun w hw=>by simp only[List.take_zero,List.map_nil,List.nil_append,List.drop_zero];exact ah.mem hw) ?_
 rintro i bh
 have nP:=oK i bh
 refine Gc ?_
 refine Gs ?_
 refine Gc ?_
 refine au rfl (fun h0=> ?_) (fun h0=> ?_)
 ·
  replace h0:=bz h0
  obtain⟨z,hz⟩:=get_some (xs:=ls) (i:=i) (by omega)
  have zD:=KM (f:=gJ R) hz
  refine Gc ?_
  refine Gs ?_
  refine ag (bg rfl rfl i rfl (by omega)) ?_
  refine ag (gG rfl i zD rfl) ?_
  refine bK fun b7=> ?_
  iterate 2 refine Gs ?_
  refine Gc ?_
  iterate 3 refine Gs ?_
  refine Gg ?_
  refine bZ rfl rfl rfl (fun hg=>(Ry.yl (fI rfl))) ?_
  refine bZ rfl rfl rfl (fun hg=>Cs (f:=f) (vs:=[.agg (br z)]) (aG hg rfl) (dA (aG hg rfl) gE) (fun w1 l6=>hr.h w1 (ah.mem l6) z)) ?_
  refine bZ rfl rfl rfl (fun hg=>(Ry.yl (iR (aG hg rfl)))) ?_
  refine Gs ?_
  refine Gc ?_
  refine au rfl (fun h1=> ?_) (fun h1=> ?_)
  ·
   replace h1:=bz h1
   have hf:gJ R z=bj:=by rw[gJ,if_pos (by simpa using h1)]
   refine Gi ?_
   iterate 2 refine Gs ?_
   refine ag (cR (v:= .agg (br bj)) rfl CF) ?_
   refine ag (bg rfl rfl i rfl (by omega)) ?_
   refine kO (n:=4) (k:=i) (j:=0) (a:=z) (a':=bj) (xs:=((ls.take i).map (gJ R)++ls.drop i)) (enc:=br) (c:=4) (v:= .agg (br bj)) (by kernel_rfl) rfl rfl rfl zD (bu.one (enc:=br) (c:=4) _) rfl (by decide) (by rfl) ?_
   refine Gc ?_
   iterate 2 refine Gs ?_
   refine Gi ?_
   exact bx (x:=(i)) (i+1) (by first|omega|(simp only[];omega)) (by first|omega|(simp only[];omega)) (Sub.cons rfl (Sub.cons rfl (Sub.cons rfl (Sub.cons rfl (Sub.cons rfl (Sub.nil _)))))) (fun w hw=>by rw[←KK hz,hf];exact ah.mem hw)
  ·
   replace h1:=bz h1
   have hf:gJ R z=z:=by rw[gJ,if_neg (by simpa using h1)]
   refine Gc ?_
   iterate 2 refine Gs ?_
   refine Gi ?_
   exact bx (x:=(i)) (i+1) (by first|omega|(simp only[];omega)) (by first|omega|(simp only[];omega)) (Sub.cons rfl (Sub.cons rfl (Sub.cons rfl (Sub.cons rfl (Sub.cons rfl (Sub.nil _)))))) (fun w hw=>by rw[←KL hz hf];exact ah.mem hw)
 ·
  replace h0:=bz h0
  obtain rfl:i=ls.length:=by omega
  have hE:bR R ls=((ls.take ls.length).map (gJ R)++ls.drop ls.length):=by rw[bR,List.take_length,List.drop_length,List.append_nil]
  refine Gc ?_
  iterate 2 refine Gs ?_
  refine Gc ?_
  refine aq (.inl rfl) (aI rfl (ak rfl)) (fun w1 hw=> ?_)
  exact⟨x9,rfl,trivial,by rw[hE];exact ah.mem hw⟩
instance ahE{w0:World}{L:List ai}{f:FuncId}{jQ:Array Value}{R:ax→Bool}{l:Sv}{ls:List ax}[rq:qy Tryz.prog w0 L f jQ br R][hl:c0 w0 L br 4 l ls]:cl Tryz.prog 169 w0 L [l.val, .func (.func f) #[] jQ] (Sv) (fun zz=>zz.val) (fun zz=>own br 4 zz (bR R ls)::L) (fun zz=>True) (ls.length≤1000000):=⟨fun hp w hw=>(Wt w f jQ R (rq.at hw) l ls (hl.h w hw) hp).mono fun e w' ⟨x,h1,h2,h3⟩=>⟨x,h1,h2,hw.call h3⟩⟩
open Go.aC Go.Kb
open Go.RowKit
instance:fe Tryz.prog 3 (.int .i64 0):=⟨by kernel_rfl⟩
theorem zE(a:Sl Int):aw [a]=a.xs:=by simp[aw]
theorem Gz(a b:Sl Int):aw [a,b]=a.xs++b.xs:=by simp[aw]
theorem Wu(w:World)(xb:Nat)(xc:Cp)(xa:Sl Int)(xg:UInt64)(xl:Int)(xy:Bool)(dL:w.heap[xb]? =Option.some (.cells (aL (⟨⟨xc,xa,xg,xl⟩,xy⟩:aP)) 141 (0,0)))(dU:Deep.aY (hp w) xc)(ng:Deep.aY (hp w) xa)(bb:qe (cv xc) xa.xs):Calls Tryz.prog 150 #[.pointer (some ⟨xb,0,none⟩)] w fun e w'=>e= .returned (.tuple #[.int .i64 ((jx (cv xc) xa.xs).1), .int .i64 ((jx (cv xc) xa.xs).2)])∧Mem w [] w':=by
 have sB:pF w xb (aL (⟨⟨xc,xa,xg,xl⟩,xy⟩:aP)) 141:=⟨dL⟩
 have sC:cg w xc:=⟨dU⟩
 have ahF:cg w xa:=⟨ng⟩
 have oN:qe (cv xc) (aw [xa]):=by rw[zE];exact bb
 have hk:=bb.1.1
 have MB: ∀z∈(av (cv xc) (aw [xa])),BS (cv xc) (aw [xa]).length z:=fun z hz=>rk hk hz
 have tH:=KW hk (av (cv xc) (aw [xa])) MB
 have rF:=kA (cv xc) (aw [xa])
 have hd:=eF hk
 change _∧_∧1≤xc.pages∧xc.pages≤16∧_∧_ at hd
 refine ba (args:=[_]) Tryz.func150 rfl Tryz.ntmps150 rfl ?_
 change Cw _ _ _ _ _ [(0, .pointer (some ⟨xb,0,none⟩))] []
 refine Gc ?_
 iterate 2 refine Gs ?_
 refine Gc ?_
 iterate 2 refine Gs ?_
 refine Gc ?_
 iterate 5 refine Gs ?_
 refine ag (Ry.to (v':=xa.sv.val) (mF rfl) rfl) ?_
 refine pc (enc:=bY) (vals:=[xa.sv.val]) [xa] rfl (by simp only[List.map_cons,List.map_nil,Sv.iU];rfl) rfl (by decide) (by decide) fun Ww=> ?_
 refine bq (hc:=Gy (l:=(⟨⟨false,Ww,0,1,1,none⟩,[xa]⟩:Sl (Sl Int)))) rfl oN fun aA kg=> ?_
 iterate 2 refine Gs ?_
 refine Gc ?_
 refine ca (X:=Nat) (fun zz=>[(18, .int .i64 (zz:Nat)),(4, .int .i64 ((fm xc.pages ((av (cv xc) (aw [xa])).take zz)).1)),(5, .int .i64 ((fm xc.pages ((av (cv xc) (aw [xa])).take zz)).2)),(0, .pointer (some ⟨xb,0,none⟩)),(16,aA.val),(17, .int .i64 ((av (cv xc) (aw [xa])).length:Nat))]) (fun zz=>[own br 4 aA (av (cv xc) (aw [xa]))]) (fun zz=>zz≤(av (cv xc) (aw [xa])).length) (fun zz=>(av (cv xc) (aw [xa])).length -zz) 0 (Nat.zero_le _) (Sub.cons rfl (Sub.cons (look_eq rfl (by rw[List.take_zero];rfl)) (Sub.cons (look_eq rfl (by rw[List.take_zero];rfl)) (Sub.cons rfl (Sub.cons rfl (Sub.cons rfl (Sub.nil _))))))) (fun w hw=>ah.mem hw) ?_
 rintro i bh
 refine Gc ?_
 refine Gs ?_
 refine Gc ?_
 refine au rfl (fun h0=> ?_) (fun h0=> ?_)
 ·
  replace h0:=bz h0
  obtain⟨z,hz⟩:=get_some (xs:=(av (cv xc) (aw [xa]))) (i:=i) (by omega)
  have eM:=KV (p:=xc.pages) hz
  have ht:=MB z (List.mem_of_getElem? hz)
  have zF:=ht.zd
  have xz:z.used≤xc.pages:=ht.wQ
  have gA:0≤(fm xc.pages ((av (cv xc) (aw [xa])).take i)).1∧(fm xc.pages ((av (cv xc) (aw [xa])).take i)).1≤16*(i:Int)∧0≤(fm xc.pages ((av (cv xc) (aw [xa])).take i)).2∧(fm xc.pages ((av (cv xc) (aw [xa])).take i)).2≤16:=tH i (by omega)
  refine Gc ?_
  refine ag (bg rfl rfl i rfl (by omega)) ?_
  refine ag (gG rfl i hz rfl) ?_
  refine bK fun b7=> ?_
  refine Gs ?_
  refine Gc ?_
  iterate 2 refine Gs ?_
  refine Gc ?_
  refine au rfl (fun h1=> ?_) (fun h1=> ?_)
  ·
   replace h1:=bz h1
   have bA:(fm xc.pages ((av (cv xc) (aw [xa])).take (i+1)))=(fm xc.pages ((av (cv xc) (aw [xa])).take i)):=by rw[eM,qn,if_pos h1]
   refine Gc ?_
   iterate 2 refine Gs ?_
   refine Gi ?_
   exact bx (x:=(i)) (i+1) (by first|omega|(simp only[];omega)) (by first|omega|(simp only[];omega)) (Sub.cons rfl (Sub.cons (look_eq rfl (by rw[bA])) (Sub.cons (look_eq rfl (by rw[bA])) (Sub.cons rfl (Sub.cons rfl (Sub.cons rfl (Sub.nil _))))))) (fun w hw=>ah.mem hw)
  ·
   replace h1:=bz h1
   have pv: ¬z.bad=true:=by rw[h1];simp
   refine Gc ?_
   refine gO (by kernel_rfl) (by kernel_rfl) ?_
   iterate 5 refine Gq ?_
   refine bc (Ry.to (v':= .int .i64 xc.pages) (mF rfl) rfl) ?_
   iterate 4 refine Gq ?_
   refine Gc ?_
   iterate 3 refine Gs ?_
   refine Gc ?_
   refine au rfl (fun h2=> ?_) (fun h2=> ?_)
   ·
    replace h2:=bz h2
    refine Gc ?_
    iterate 2 refine Gs ?_
    refine Gc ?_
    refine au rfl (fun h3=> ?_) (fun h3=> ?_)
    ·
     replace h3:=bz h3
     have hN:j9 xc.pages z=xc.pages:=by rw[j9,if_pos ⟨h2,h3⟩]
     have bA:(fm xc.pages ((av (cv xc) (aw [xa])).take (i+1)))=((fm xc.pages ((av (cv xc) (aw [xa])).take i)).1+xc.pages,max (fm xc.pages ((av (cv xc) (aw [xa])).take i)).2 xc.pages):=by rw[eM,qn,if_neg pv,if_pos h2,hN]
     refine Gi ?_
     iterate 5 refine Gs ?_
     refine ag (Ry.to (v':= .int .i64 xc.pages) (mF rfl) rfl) ?_
     refine Gs ?_
     refine Gc ?_
     iterate 2 refine Gs ?_
     refine ag (uv rfl rfl) ?_
     refine Gs ?_
     refine Gc ?_
     iterate 4 refine Gs ?_
     refine Gc ?_
     iterate 2 refine Gs ?_
     refine Gi ?_
     exact bx (x:=(i)) (i+1) (by first|omega|(simp only[];omega)) (by first|omega|(simp only[];omega)) (Sub.cons rfl (Sub.cons (look_eq rfl (by rw[bA])) (Sub.cons (look_eq rfl (by rw[bA])) (Sub.cons rfl (Sub.cons rfl (Sub.cons rfl (Sub.nil _))))))) (fun w hw=>ah.mem hw)
    ·
     replace h3:=bz h3
     have hN:j9 xc.pages z=xc.pages -z.used:=by rw[j9,if_neg (fun h=>h3 h.2)]
     have bA:(fm xc.pages ((av (cv xc) (aw [xa])).take (i+1)))=((fm xc.pages ((av (cv xc) (aw [xa])).take i)).1+(xc.pages -z.used),max (fm xc.pages ((av (cv xc) (aw [xa])).take i)).2 (xc.pages -z.used)):=by rw[eM,qn,if_neg pv,if_pos h2,hN]
     refine Gc ?_
     iterate 2 refine Gs ?_
     refine ag (uv rfl rfl) ?_
     refine Gs ?_
     refine Gc ?_
     iterate 4 refine Gs ?_
     refine Gc ?_
     iterate 2 refine Gs ?_
     refine Gi ?_
     exact bx (x:=(i)) (i+1) (by first|omega|(simp only[];omega)) (by first|omega|(simp only[];omega)) (Sub.cons rfl (Sub.cons (look_eq rfl (by rw[bA])) (Sub.cons (look_eq rfl (by rw[bA])) (Sub.cons rfl (Sub.cons rfl (Sub.cons rfl (Sub.nil _))))))) (fun w hw=>ah.mem hw)
   ·
    replace h2:=bz h2
    have hN:j9 xc.pages z=xc.pages -z.used:=by rw[j9,if_neg (fun h=>h2 h.1)]
    have bA:(fm xc.pages ((av (cv xc) (aw [xa])).take (i+1)))=((fm xc.pages ((av (cv xc) (aw [xa])).take i)).1+(xc.pages -z.used),(fm xc.pages ((av (cv xc) (aw [xa])).take i)).2):=by rw[eM,qn,if_neg pv,if_neg h2,hN]
    refine Gc ?_
    iterate 4 refine Gs ?_
    refine Gc ?_
    iterate 2 refine Gs ?_
    refine Gi ?_
    exact bx (x:=(i)) (i+1) (by first|omega|(simp only[];omega)) (by first|omega|(simp only[];omega)) (Sub.cons rfl (Sub.cons (look_eq rfl (by rw[bA])) (Sub.cons (look_eq rfl (by rw[bA])) (Sub.cons rfl (Sub.cons rfl (Sub.cons rfl (Sub.nil _))))))) (fun w hw=>ah.mem hw)
 ·
  replace h0:=bz h0
  obtain rfl:i=(av (cv xc) (aw [xa])).length:=by omega
  have hE:jx (cv xc) xa.xs=((fm xc.pages ((av (cv xc) (aw [xa])).take (av (cv xc) (aw [xa])).length)).1 -(fm xc.pages ((av (cv xc) (aw [xa])).take (av (cv xc) (aw [xa])).length)).2,(fm xc.pages ((av (cv xc) (aw [xa])).take (av (cv xc) (aw [xa])).length)).1):=by rw[jx,←zE xa,List.take_length];rfl
  have gA:0≤(fm xc.pages ((av (cv xc) (aw [xa])).take (av (cv xc) (aw [xa])).length)).1∧(fm xc.pages ((av (cv xc) (aw [xa])).take (av (cv xc) (aw [xa])).length)).1≤16*((av (cv xc) (aw [xa])).length:Int)∧0≤(fm xc.pages ((av (cv xc) (aw [xa])).take (av (cv xc) (aw [xa])).length)).2∧(fm xc.pages ((av (cv xc) (aw [xa])).take (av (cv xc) (aw [xa])).length)).2≤16:=tH (av (cv xc) (aw [xa])).length (Nat.le_refl _)
  refine Gc ?_
  iterate 6 refine Gs ?_
  refine Gc ?_
  refine aq (.inl rfl) (bm rfl (ak rfl) (ak rfl)) (fun w1 hw=> ?_)
  exact⟨by rw[hE],ah.mem hw⟩
instance ahG{w0:World}{L:List ai}{xb:Nat}{xc:Cp}{xa:Sl Int}{xg:UInt64}{xl:Int}{xy:Bool}[dL:lz w0 L xb (aL (⟨⟨xc,xa,xg,xl⟩,xy⟩:aP)) 141][dU:aU w0 L xc][ng:aU w0 L xa]:cB Tryz.prog 150 w0 L [.pointer (some ⟨xb,0,none⟩)] (.tuple #[.int .i64 ((jx (cv xc) xa.xs).1), .int .i64 ((jx (cv xc) xa.xs).2)]) (qe (cv xc) xa.xs):=⟨fun hp w hw=>Wu w xb xc xa xg xl xy (dL.h w hw) (dU.h w hw) (ng.h w hw) hp⟩
theorem Wx(w:World)(x:ax):Calls Tryz.prog 175 #[.agg (br x)] w fun e w'=>e= .returned (.bool (pt x))∧Mem w [] w':=by
 refine ba (args:=[_]) Tryz.func175 rfl Tryz.ntmps175 rfl ?_
 change Cw _ _ _ _ _ [(0, .agg (br x))] []
 refine Gc ?_
 refine bX rfl fun b1=> ?_
 refine Gs ?_
 refine Gc ?_
 iterate 4 refine Gs ?_
 refine Gc ?_
 refine aq (.inl rfl) (aI rfl (ak rfl)) (fun w1 hw=> ?_)
 exact⟨congrArg (fun b=>Ending.returned (Value.bool b)) (rfl),ah.mem hw⟩
instance {w0:World}{L:List ai}:qy Tryz.prog w0 L 175 #[] br pt:=⟨inferInstance,fun w _ x=>Wx w x⟩
theorem Wz(w:World)(x:ax):Calls Tryz.prog 176 #[.agg (br x)] w fun e w'=>e= .returned (.bool (fM x))∧Mem w [] w':=by
 refine ba (args:=[_]) Tryz.func176 rfl Tryz.ntmps176 rfl ?_
 change Cw _ _ _ _ _ [(0, .agg (br x))] []
 refine Gc ?_
 refine bX rfl fun b1=> ?_
 refine Gs ?_
 refine Gc ?_
 iterate 4 refine Gs ?_
 refine Gc ?_
 refine aq (.inl rfl) (aI rfl (ak rfl)) (fun w1 hw=> ?_)
 exact⟨congrArg (fun b=>Ending.returned (Value.bool b)) (rfl),ah.mem hw⟩
instance {w0:World}{L:List ai}:qy Tryz.prog w0 L 176 #[] br fM:=⟨inferInstance,fun w _ x=>Wz w x⟩
theorem WA(w0 w:World)(L:List ai)(k:Nat)(xc:Cp)(xa:Sl Int)(xg:UInt64)(xl:Int)(xy:Bool)(l:Sl (Sl Int))[hl:aU w0 L l](hw:Mem w0 (ar k (aL (⟨⟨xc,xa,xg,xl⟩,xy⟩:aP)) 141::fz xc::L) w)(bb:aT (cv xc)=true∧3≤(cv xc).blocks.length∧gV (cv xc) (aw l.xs)∧(aw l.xs).length≤1000):Calls Tryz.prog 153 #[.pointer (some ⟨k,0,none⟩),l.sv.val] w fun e w'=> ∃zz:Cp,e= .returned (.tuple #[.int .i64 ((bk (cv xc) (aw l.xs) xy).2.1), .int .i64 ((bk (cv xc) (aw l.xs) xy).2.2)])∧(cv zz=(bk (cv xc) (aw l.xs) xy).1)∧Mem w0 (ar k (aL (⟨⟨zz,xa,xg,xl⟩,xy⟩:aP)) 141::fz zz::L) w':=by
 obtain⟨hk,xA,sF,lQ⟩:=bb
 have oN:=sF.kn hk (by omega) (by omega)
 have hd:=eF hk
 have rF:=kA (cv xc) (aw l.xs)
 refine kl (args:=[_,_]) Tryz.func153 rfl Tryz.ntmps153 rfl hw ?_
 change Cw _ _ _ _ _ [(0, .pointer (some ⟨k,0,none⟩)),(1,l.sv.val)] (ar k (aL (⟨⟨xc,xa,xg,xl⟩,xy⟩:aP)) 141::fz xc::L)
 refine Gc ?_
 iterate 2 refine Gs ?_
 refine Gc ?_
 refine jn [2] [[],[],[],[],[],[],[],[],[],[2],[2]] [0,1,3,4,5,6,7,8,2,9,10] [ar k (aL (⟨⟨xc,xa,xg,xl⟩,xy⟩:aP)) 141,fz xc] (fun _ hw=>ah.mem hw) (by kernel_rfl) (by kernel_rfl) ?_
 refine al rfl (aD rfl) ?_
 refine al rfl (aD rfl) ?_
 refine al rfl (aD rfl) ?_
 refine al rfl (jG rfl) ?_
 refine al rfl (aH (o':=0) rfl rfl) ?_
 refine al rfl (aH (o':=0) rfl rfl) ?_
 refine al rfl (aH (o':=0) rfl rfl) ?_
 refine al rfl (Ry.to (v':= .int .i64 xc.pages) (bH rfl) rfl) ?_
 refine dE rfl (nG rfl oN fun gK vg=>⟨fun _ hw=>ah.mem hw,?_⟩)
 refine al rfl (bl rfl) ?_
 refine al rfl (bl rfl) ?_
 refine Gc ?_
 refine Gs ?_
 refine bq rfl (by omega) fun xd F1=> ?_
 iterate 3 refine Gs ?_
 refine ag (aV (v:= .int .i64 ((eE (bR pt (av (cv xc) (aw l.xs))) xc.pages).1)) rfl rfl) ?_
 refine ag (aV (v:= .bool ((eE (bR pt (av (cv xc) (aw l.xs))) xc.pages).2)) rfl rfl) ?_
 iterate 2 refine Gs ?_
 refine Gc ?_
 refine Gs ?_
 refine Gc ?_
 refine au rfl (fun h0=> ?_) (fun h0=> ?_)
 ·
  replace h0:=bz h0
  have nW:(kX (cv xc) (aw l.xs)).2=true:=h0
  have hE:(bk (cv xc) (aw l.xs) xy)=(cv xc,(kX (cv xc) (aw l.xs)).1+2,0):=by rw[bk,if_pos nW]
  have nj:=KR nW
  change 0≤(eE (bR pt (av (cv xc) (aw l.xs))) xc.pages).1∧(eE (bR pt (av (cv xc) (aw l.xs))) xc.pages).1<_∧_ at nj
  refine Gc ?_
  iterate 4 refine Gs ?_
  refine Gc ?_
  refine aq (.inl rfl) (bm rfl (ak rfl) (ak rfl)) (fun w1 hw=> ?_)
  exact⟨xc,by rw[hE];rfl,by rw[hE],ah.mem hw⟩
 ·
  replace h0:=bz h0
  have nW: ¬(kX (cv xc) (aw l.xs)).2=true:=fun h=>by rw[show(kX (cv xc) (aw l.xs)).2=false from h0]at h;cases h
  refine Gc ?_
  refine Gs ?_
  refine Gc ?_
  iterate 3 refine Gs ?_
  refine Gc ?_
  refine ca (X:=Nat) (fun zz=>[(39, .int .i64 (zz:Nat)),(10, .int .i64 ((((av (cv xc) (aw l.xs)).take zz).filter fun z=> !z.bad&&decide (z.live=0)).length:Nat)),(0, .pointer (some ⟨k,0,none⟩)),(6,gK.val),(7, .int .i64 xc.pages),(37,gK.val),(38, .int .i64 ((av (cv xc) (aw l.xs)).length:Nat))]) (fun zz=>ar k (aL (⟨⟨xc,xa,xg,xl⟩,xy⟩:aP)) 141::fz xc::own br 4 gK (av (cv xc) (aw l.xs))::L) (fun zz=>zz≤(av (cv xc) (aw l.xs)).length) (fun zz=>(av (cv xc) (aw l.xs)).length -zz) 0 (Nat.zero_le _) (Sub.cons rfl (Sub.cons rfl (Sub.cons rfl (Sub.cons rfl (Sub.cons rfl (Sub.cons rfl (Sub.cons rfl (Sub.nil _)))))))) (fun w hw=>ah.mem hw) ?_
  rintro i bh
  refine Gc ?_
  refine Gs ?_
  refine Gc ?_
  refine au rfl (fun h1=> ?_) (fun h1=> ?_)
  ·
   replace h1:=bz h1
   obtain⟨z,hz⟩:=get_some (xs:=(av (cv xc) (aw l.xs))) (i:=i) (by omega)
   have eM:=S7 hz
   have hle:=S8 ((av (cv xc) (aw l.xs)).take i)
   rw[List.length_take]at hle
   refine Gc ?_
   refine ag (bg rfl rfl i rfl (by omega)) ?_
   refine ag (gG rfl i hz rfl) ?_
   refine bK fun tM=> ?_
   refine Gs ?_
   refine Gc ?_
   iterate 4 refine Gs ?_
   iterate 3 refine Gg ?_
   refine Gs ?_
   refine Gc ?_
   refine au rfl (fun h2=> ?_) (fun h2=> ?_)
   ·
    replace h2:=bz h2
    rw[if_pos (by simpa using h2)]at eM
    refine Gi ?_
    iterate 3 refine Gs ?_
    refine Gc ?_
    iterate 2 refine Gs ?_
    refine Gi ?_
    exact bx (x:=(i)) (i+1) (by first|omega|(simp only[];omega)) (by first|omega|(simp only[];omega)) (Sub.cons rfl (Sub.cons (look_eq rfl (by rw[eM];rfl)) (Sub.cons rfl (Sub.cons rfl (Sub.cons rfl (Sub.cons rfl (Sub.cons rfl (Sub.nil _)))))))) (fun w hw=>ah.mem hw)
   ·
    replace h2:=bz h2
    rw[if_neg (fun g=>h2.elim (fun h=>absurd (h.symm.trans g.1) (by simp)) (fun h=>h g.2))]at eM
    refine Gc ?_
    iterate 2 refine Gs ?_
    refine Gi ?_
    exact bx (x:=(i)) (i+1) (by first|omega|(simp only[];omega)) (by first|omega|(simp only[];omega)) (Sub.cons rfl (Sub.cons (look_eq rfl (by rw[eM,Nat.add_zero])) (Sub.cons rfl (Sub.cons rfl (Sub.cons rfl (Sub.cons rfl (Sub.cons rfl (Sub.nil _)))))))) (fun w hw=>ah.mem hw)
  ·
   replace h1:=bz h1
   obtain rfl:i=(av (cv xc) (aw l.xs)).length:=by omega
   have ib:dx (av (cv xc) (aw l.xs))=(((av (cv xc) (aw l.xs)).take (av (cv xc) (aw l.xs)).length).filter fun z=> !z.bad&&decide (z.live=0)).length:=by rw[dx,List.take_length]
   refine Gc ?_
   iterate 3 refine Gs ?_
   iterate 2 refine Gg ?_
   refine bZ rfl rfl rfl (fun hg=>(Ry.yl (aD (aG hg rfl)))) ?_
   refine od rfl rfl rfl (fun hg=>(Ry.yl (aD rfl))) ?_
   refine od rfl rfl rfl (fun hg=>(Ry.yl (jG (aG hg rfl)))) ?_
   refine od rfl rfl rfl (fun hg=>(Ry.yl (aH (o':=9) (aG hg rfl) rfl))) ?_
   refine od rfl rfl rfl (fun hg=>(Ry.yl (Ry.to (v':= .bool xy) (bH (aG hg rfl)) rfl))) ?_
   refine od rfl rfl rfl (fun hg=>(Ry.yl (iR (aG hg rfl)))) ?_
   refine bZ rfl rfl rfl (fun hg=>(Ry.yl (vK (aG hg rfl) (vS hg rfl) rfl))) ?_
   refine Gs ?_
   refine Gc ?_
   refine au rfl (fun h3=> ?_) (fun h3=> ?_)
   ·
    replace h3:=bz h3
    have nX:dx (av (cv xc) (aw l.xs))=0∨(dx (av (cv xc) (aw l.xs))=1∧xy=false):=by
     rw[ib]
     rcases h3 with h|h
     ·
      exact .inl (by omega)
     ·
      exact .inr ⟨by omega,h.2⟩
    have hE:(bk (cv xc) (aw l.xs) xy)=(cv xc,0,5):=by rw[bk,if_neg nW,if_pos nX]
    refine Gc ?_
    iterate 2 refine Gs ?_
    refine Gc ?_
    refine aq (.inl rfl) (bm rfl (ak rfl) (ak rfl)) (fun w1 hw=> ?_)
    exact⟨xc,by rw[hE],by rw[hE],ah.mem hw⟩
   ·
    replace h3:=bz h3
    have nX: ¬(dx (av (cv xc) (aw l.xs))=0∨(dx (av (cv xc) (aw l.xs))=1∧xy=false)):=by
     rw[ib]
     rintro(h|h)
     ·
      exact h3.1 (by omega)
     ·
      rcases h3.2 with g|g
      ·
       exact g (by omega)
      ·
       rw[h.2]at g;cases g
    refine Gc ?_
    refine Gs ?_
    refine bq rfl (by omega) fun eI GA=> ?_
    refine Gs ?_
    refine Gc ?_
    iterate 4 refine Gs ?_
    refine ag (aV (v:= .int .i64 ((eE (bR fM (av (cv xc) (aw l.xs))) xc.pages).1)) rfl rfl) ?_
    refine ag (aV (v:= .bool ((eE (bR fM (av (cv xc) (aw l.xs))) xc.pages).2)) rfl rfl) ?_
    iterate 2 refine Gs ?_
    refine Gc ?_
    refine Gs ?_
    refine Gc ?_
    refine au rfl (fun h4=> ?_) (fun h4=> ?_)
    ·
     replace h4:=bz h4
     have jg:(jw (cv xc) (aw l.xs)).2=true:=h4
     have hE:(bk (cv xc) (aw l.xs) xy)=(cv xc,(jw (cv xc) (aw l.xs)).1+2,0):=by rw[bk,if_neg nW,if_neg nX,if_pos jg]
     have nj:=KS jg
     change 0≤(eE (bR fM (av (cv xc) (aw l.xs))) xc.pages).1∧(eE (bR fM (av (cv xc) (aw l.xs))) xc.pages).1<_∧_ at nj
     refine Gc ?_
     iterate 4 refine Gs ?_
     refine Gc ?_
     refine aq (.inl rfl) (bm rfl (ak rfl) (ak rfl)) (fun w1 hw=> ?_)
     exact⟨xc,by rw[hE];rfl,by rw[hE],ah.mem hw⟩
    ·
     replace h4:=bz h4
     have jg: ¬(jw (cv xc) (aw l.xs)).2=true:=fun h=>by rw[show(jw (cv xc) (aw l.xs)).2=false from h4]at h;cases h
     obtain⟨d1,d2,d3⟩:=KQ hk xA (fun e=>nX (.inl e)) jg
     change 0≤(eK (bR fM (av (cv xc) (aw l.xs))) xc.pages).1 at d1
     change(eK (bR fM (av (cv xc) (aw l.xs))) xc.pages).1<_ at d2
     have hE:(bk (cv xc) (aw l.xs) xy)=((cy (cv xc) (iL (cv xc) (aw l.xs)+2)).1,iL (cv xc) (aw l.xs)+2,(cy (cv xc) (iL (cv xc) (aw l.xs)+2)).2):=by rw[bk,if_neg nW,if_neg nX,if_neg jg]
     refine Gc ?_
     iterate 4 refine Gs ?_
     refine ag (aV (v:= .int .i64 ((eK (bR fM (av (cv xc) (aw l.xs))) xc.pages).1)) rfl rfl) ?_
     refine ag (aV (v:= .bool ((eK (bR fM (av (cv xc) (aw l.xs))) xc.pages).2)) rfl rfl) ?_
     iterate 2 refine Gs ?_
     refine Gc ?_
     iterate 5 refine Gs ?_
     refine bq rfl ⟨hk,by omega,by omega⟩ fun WB WC=> ?_
     iterate 2 refine Gs ?_
     refine Gc ?_
     refine aq (.inl rfl) (bm rfl (ak rfl) (ak rfl)) (fun w1 hw=> ?_)
     exact⟨WB,by rw[hE];rfl,by rw[WC,hE];rfl,ah.mem hw⟩
instance ahH{w0:World}{L R1 L2:List ai}{i0 i1:Nat}{k:Nat}{xc:Cp}{xa:Sl Int}{xg:UInt64}{xl:Int}{xy:Bool}{l:Sl (Sl Int)}[q0:Has L k (aL (⟨⟨xc,xa,xg,xl⟩,xy⟩:aP)) 141 i0][d0:dq L i0 R1][q1:At R1 (fz xc) i1][d1:dq R1 i1 L2][hl:aU w0 L2 l]:cl Tryz.prog 153 w0 L [.pointer (some ⟨k,0,none⟩),l.sv.val] (Cp) (fun zz=> .tuple #[.int .i64 ((bk (cv xc) (aw l.xs) xy).2.1), .int .i64 ((bk (cv xc) (aw l.xs) xy).2.2)]) (fun zz=>ar k (aL (⟨⟨zz,xa,xg,xl⟩,xy⟩:aP)) 141::fz zz::L2) (fun zz=>cv zz=(bk (cv xc) (aw l.xs) xy).1) (aT (cv xc)=true∧3≤(cv xc).blocks.length∧gV (cv xc) (aw l.xs)∧(aw l.xs).length≤1000):=⟨fun hp w hw=>WA w0 w L2 k xc xa xg xl xy l (sr q0.h d0.h q1.h d1.h hw) hp⟩
open Go.aC Go.Kb
open Go.RowKit
theorem WD(w0 w:World)(L:List ai)(k:Nat)(xc:Cp)(xa:Sl Int)(xg:UInt64)(xl:Int)(xy:Bool)(q:eo)(l:Sl (Sl Int))[hq:aU w0 L q][hl:aU w0 L l](hw:Mem w0 (ar k (aL (⟨⟨xc,xa,xg,xl⟩,xy⟩:aP)) 141::fz xc::L) w)(bb:aT (cv xc)=true∧3≤(cv xc).blocks.length∧gV (cv xc) (aw l.xs)∧(aw l.xs).length≤1000):Calls Tryz.prog 127 #[.pointer (some ⟨k,0,none⟩), .agg (cG q),l.sv.val] w fun e w'=> ∃zz:Cp,e= .returned (.tuple #[.int .i64 ((cT (cv xc) (aw l.xs) xy (cD q)).2.1), .int .i64 ((cT (cv xc) (aw l.xs) xy (cD q)).2.2)])∧(cv zz=(cT (cv xc) (aw l.xs) xy (cD q)).1)∧Mem w0 (ar k (aL (⟨⟨zz,xa,xg,xl⟩,xy⟩:aP)) 141::fz zz::L) w':=by
 obtain⟨hk,xA,sF,lQ⟩:=bb
 have hd:=eF hk
 have wa:1≤xc.pages∧xc.pages≤16:=⟨hd.2.2.1,hd.2.2.2.1⟩
 refine kl (args:=[_,_,_]) Tryz.func127 rfl Tryz.ntmps127 rfl hw ?_
 change Cw _ _ _ _ _ [(0, .pointer (some ⟨k,0,none⟩)),(1, .agg (cG q)),(2,l.sv.val)] (ar k (aL (⟨⟨xc,xa,xg,xl⟩,xy⟩:aP)) 141::fz xc::L)
 refine Gc ?_
 refine bX rfl fun b4=> ?_
 iterate 2 refine Gs ?_
 refine Gc ?_
 refine jn [7] [[],[],[],[],[],[],[],[],[7],[7],[7],[7],[7]] [0,1,2,3,4,5,6,7,8,9,10,11,12] [ar b4 (cG q) 110,ar k (aL (⟨⟨xc,xa,xg,xl⟩,xy⟩:aP)) 141,fz xc] (fun _ hw=>ah.mem hw) (by kernel_rfl) (by kernel_rfl) ?_
 refine al rfl (fI rfl) ?_
 refine al rfl (aD rfl) ?_
 refine al rfl (jG rfl) ?_
 refine al rfl (aH (o':=0) rfl rfl) ?_
 refine al rfl (aH (o':=0) rfl rfl) ?_
 refine al rfl (aH (o':=1) rfl rfl) ?_
 refine al rfl (Ry.to (v':= .int .i64 xc.size) (bH rfl) rfl) ?_
 refine dE rfl (nG rfl trivial fun jh GB=>⟨fun _ hw=>ah.mem hw,?_⟩)
 skip
 refine al rfl (aD rfl) ?_
 refine al rfl (aV (v:=jh.val) rfl rfl) ?_
 refine al rfl (aV (v:= .int .i64 ((c8 (cD q) xc.size).2)) rfl rfl) ?_
 refine al rfl (bl rfl) ?_
 refine al rfl (bl rfl) ?_
 refine Gc ?_
 iterate 2 refine Gs ?_
 refine Gc ?_
 refine au rfl (fun h0=> ?_) (fun h0=> ?_)
 ·
  replace h0:=bz h0
  have hE:(cT (cv xc) (aw l.xs) xy (cD q))=(cv xc,0,(c8 (cD q) xc.size).2):=by rw[cT,if_pos (show(c8 (cD q) (cv xc).size).2≠0 from h0)];rfl
  refine Gc ?_
  iterate 3 refine Gs ?_
  refine Gc ?_
  refine aq (.inl rfl) (bm rfl (ak rfl) (ak rfl)) (fun w1 hw=> ?_)
  exact⟨xc,by rw[hE],by rw[hE],ah.mem hw⟩
 ·
  replace h0:=bz h0
  refine Gc ?_
  refine ca (X:=Nat×Cp) (fun zz=>[(0, .pointer (some ⟨k,0,none⟩)),(2,l.sv.val),(8,jh.val)]) (fun zz=>ar k (aL (⟨⟨zz.2,xa,xg,xl⟩,xy⟩:aP)) 141::fz zz.2::own aM 1 jh (c8 (cD q) xc.size).1::L) (fun zz=>(cT (cv xc) (aw l.xs) xy (cD q))=ia zz.1 (cv zz.2) (aw l.xs) xy (c8 (cD q) xc.size).1∧aT (cv zz.2)=true∧dw (cv xc) (cv zz.2)∧(cI -(cv zz.2).ops).toNat<zz.1) (fun zz=>zz.1) ((cI -(cv xc).ops).toNat+1,xc) ⟨by rw[cT,if_neg (show ¬(c8 (cD q) (cv xc).size).2≠0 from fun h=>h h0)];rfl,hk, .cX _,by simp only;omega⟩ (Sub.cons rfl (Sub.cons rfl (Sub.cons rfl (Sub.nil _)))) (fun w hw=>ah.mem hw) ?_
  rintro⟨m,d⟩ ⟨bh,aF,bt,cS⟩
  dsimp only
  simp only at bh aF bt cS
  obtain⟨n,rfl⟩: ∃n,m=n+1:=⟨m -1,by omega⟩
  refine Gc ?_
  iterate 2 refine Gs ?_
  refine bq rfl ⟨aF,by rw[bt.len];exact xA,sF.bS bt,lQ⟩ fun mH vo=> ?_
  obtain⟨f1,f2,f3,f4,f5⟩:=Fh (c:=cv d) (fl:=(aw l.xs)) (aE:=xy) aF (by rw[bt.len];exact xA)
  rw[←vo]at f1 f2 f3 f4 f5
  have f6:=bt.trans f2
  have dt:(cv mH).blocks.length=mH.blocks.xs.length:=fu _
  have UB:=f6.len
  have nV:mH.pages=xc.pages:=f6.pages
  have WE:=bt.len
  have MA:=qm f1
  refine Gs ?_
  refine ag (aV (v:= .int .i64 ((bk (cv d) (aw l.xs) xy).2.1)) rfl rfl) ?_
  refine ag (aV (v:= .int .i64 ((bk (cv d) (aw l.xs) xy).2.2)) rfl rfl) ?_
  iterate 2 refine Gs ?_
  refine Gc ?_
  iterate 2 refine Gs ?_
  refine Gc ?_
  refine au rfl (fun h1=> ?_) (fun h1=> ?_)
  ·
   replace h1:=bz h1
   have ez:(bk (cv d) (aw l.xs) xy).2.2=0:=h1
   obtain⟨g1,g2,g3⟩:=f4 ez
   obtain⟨B,hB⟩:=get_some (xs:=mH.blocks.xs) (i:=(bk (cv d) (aw l.xs) xy).2.1.toNat) (by omega)
   have qx:Mb B mH.blocks:=⟨List.mem_of_getElem? hB⟩
   have eH:=rh hB
   have fP:=dX.1 (qj f1 (b:=(bk (cv d) (aw l.xs) xy).2.1) (by omega) (by omega))
   have oP:(aj (cv mH) (bk (cv d) (aw l.xs) xy).2.1).used=B.used:=by rw[eH];rfl
   rw[oP]at fP
   have WG:(cv mH).pages=xc.pages:=nV
   rw[WG]at fP
   have mD:0≤(bk (cv d) (aw l.xs) xy).2.1*xc.pages:=Int.mul_nonneg (by omega) (by omega)
   have nR:(bk (cv d) (aw l.xs) xy).2.1*xc.pages≤32*16:=Int.mul_le_mul (by omega) (by omega) (by omega) (by omega)
   refine Gi ?_
   refine gO (by kernel_rfl) (by kernel_rfl) ?_
   iterate 6 refine Gq ?_
   refine bc (Ry.to (v':= .int .i64 xc.pages) (bH rfl) (by rw[←nV])) ?_
   refine bc (ur rfl rfl (by omega)) ?_
   iterate 5 refine Gq ?_
   refine bc (Ry.to (v':=mH.blocks.sv.val) (bH rfl) rfl) ?_
   refine Gq ?_
   refine bc (bg rfl rfl ((bk (cv d) (aw l.xs) xy).2.1.toNat) (by omega) (by omega)) ?_
   refine bc (aH rfl rfl) ?_
   refine bc (bL (j:=1) rfl ((bk (cv d) (aw l.xs) xy).2.1.toNat) hB rfl (by decide)) ?_
   iterate 3 refine Gq ?_
   refine Gc ?_
   iterate 3 refine Gs ?_
   refine bq rfl ⟨f1,by omega,by omega⟩ fun GC xB=> ?_
   refine Gs ?_
   refine Gc ?_
   iterate 2 refine Gs ?_
   refine Gc ?_
   refine au rfl (fun h2=> ?_) (fun h2=> ?_)
   ·
    replace h2:=bz h2
    have fa:(bC (cv mH) (bk (cv d) (aw l.xs) xy).2.1 (c8 (cD q) xc.size).1)=0:=h2
    have hE:(cT (cv xc) (aw l.xs) xy (cD q))=(bD (cv mH) (bk (cv d) (aw l.xs) xy).2.1 (c8 (cD q) xc.size).1,(bk (cv d) (aw l.xs) xy).2.1*xc.pages+B.used+1,0):=by
     rw[bh,ia,←vo,if_pos ez,if_pos fa,oP,show(cv d).pages=xc.pages from bt.pages]
    refine Gc ?_
    iterate 3 refine Gs ?_
    refine Gc ?_
    refine aq (.inl rfl) (bm rfl (ak rfl) (ak rfl)) (fun w1 hw=> ?_)
    exact⟨GC,by rw[hE],by rw[hE,xB],ah.mem hw⟩
   ·
    replace h2:=bz h2
    have fa: ¬(bC (cv mH) (bk (cv d) (aw l.xs) xy).2.1 (c8 (cD q) xc.size).1)=0:=h2
    refine Gc ?_
    iterate 2 refine Gs ?_
    refine Gc ?_
    refine au rfl (fun h3=> ?_) (fun h3=> ?_)
    ·
     replace h3:=bz h3
     refine Gc ?_
     iterate 3 refine Gs ?_
     refine Gc ?_
     refine aq (.inl rfl) (bm rfl (ak rfl) (ak rfl)) (fun w1 hw=> ?_)
     exact⟨GC,by rw[bh,ia,←vo,if_pos ez,if_neg fa,if_pos (show(bC (cv mH) (bk (cv d) (aw l.xs) xy).2.1 (c8 (cD q) xc.size).1)≠9 from h3)],by rw[xB,bh,ia,←vo,if_pos ez,if_neg fa,if_pos (show(bC (cv mH) (bk (cv d) (aw l.xs) xy).2.1 (c8 (cD q) xc.size).1)≠9 from h3)],ah.mem hw⟩
    ·
     replace h3:=bz h3
     iterate 2 refine Gi ?_
     have nX:(bC (cv mH) (bk (cv d) (aw l.xs) xy).2.1 (c8 (cD q) xc.size).1)=9:=h3
     have zG:=rf g3 (p:=(c8 (cD q) xc.size).1) (.inl nX)
     have GD:=qm (kz f1 (bk (cv d) (aw l.xs) xy).2.1 (c8 (cD q) xc.size).1)
     rw[zG]at GD
     exact bx (x:=(n+1,d)) (n,GC) ⟨by rw[bh,ia,←vo,if_pos ez,if_neg fa,if_neg (by simpa using nX),xB],by rw[xB];exact kz f1 _ _,by rw[xB];exact f6.trans (gU _ _ _),by rw[xB,zG];omega⟩ (by simp only;omega) (Sub.cons rfl (Sub.cons rfl (Sub.cons rfl (Sub.nil _)))) (fun w hw=>ah.mem hw)
  ·
   replace h1:=bz h1
   have ez: ¬(bk (cv d) (aw l.xs) xy).2.2=0:=h1
   refine Gc ?_
   iterate 2 refine Gs ?_
   refine Gc ?_
   refine au rfl (fun h3=> ?_) (fun h3=> ?_)
   ·
    replace h3:=bz h3
    refine Gc ?_
    iterate 3 refine Gs ?_
    refine Gc ?_
    refine aq (.inl rfl) (bm rfl (ak rfl) (ak rfl)) (fun w1 hw=> ?_)
    exact⟨mH,by rw[bh,ia,if_neg ez,if_pos (show(bk (cv d) (aw l.xs) xy).2.2≠9 from h3)],by rw[vo,bh,ia,if_neg ez,if_pos (show(bk (cv d) (aw l.xs) xy).2.2≠9 from h3)],ah.mem hw⟩
   ·
    replace h3:=bz h3
    iterate 2 refine Gi ?_
    have nX:(bk (cv d) (aw l.xs) xy).2.2=9:=h3
    exact bx (x:=(n+1,d)) (n,mH) ⟨by rw[bh,ia,if_neg ez,if_neg (by simpa using nX),vo],f1,f6,by have:=f5 nX;simp only;omega⟩ (by simp only;omega) (Sub.cons rfl (Sub.cons rfl (Sub.cons rfl (Sub.nil _)))) (fun w hw=>ah.mem hw)
instance WH{w0:World}{L R1 L2:List ai}{i0 i1:Nat}{k:Nat}{xc:Cp}{xa:Sl Int}{xg:UInt64}{xl:Int}{xy:Bool}{q:eo}{l:Sl (Sl Int)}[q0:Has L k (aL (⟨⟨xc,xa,xg,xl⟩,xy⟩:aP)) 141 i0][d0:dq L i0 R1][q1:At R1 (fz xc) i1][d1:dq R1 i1 L2][hq:aU w0 L2 q][hl:aU w0 L2 l]:cl Tryz.prog 127 w0 L [.pointer (some ⟨k,0,none⟩), .agg (cG q),l.sv.val] (Cp) (fun zz=> .tuple #[.int .i64 ((cT (cv xc) (aw l.xs) xy (cD q)).2.1), .int .i64 ((cT (cv xc) (aw l.xs) xy (cD q)).2.2)]) (fun zz=>ar k (aL (⟨⟨zz,xa,xg,xl⟩,xy⟩:aP)) 141::fz zz::L2) (fun zz=>cv zz=(cT (cv xc) (aw l.xs) xy (cD q)).1) (aT (cv xc)=true∧3≤(cv xc).blocks.length∧gV (cv xc) (aw l.xs)∧(aw l.xs).length≤1000):=⟨fun hp w hw=>WD w0 w L2 k xc xa xg xl xy q l (sr q0.h d0.h q1.h d1.h hw) hp⟩
open Go.aC Go.Kb
open Go.RowKit
theorem WI(w0 w:World)(L:List ai)(k:Nat)(xc:Cp)(xa:Sl Int)(xg:UInt64)(xl:Int)(xy:Bool)(hw:Mem w0 (ar k (aL (⟨⟨xc,xa,xg,xl⟩,xy⟩:aP)) 141::fz xc::L) w)(bb:aT (cv xc)=true∧2≤(cv xc).blocks.length∧(xl=0∨xl=1)):Calls Tryz.prog 154 #[.pointer (some ⟨k,0,none⟩)] w fun e w'=> ∃zz:Cp,e= .returned (.tuple #[.int .i64 ((aW (cv xc) xl).2.1), .int .i64 ((aW (cv xc) xl).2.2)])∧(cv zz=(aW (cv xc) xl).1)∧Mem w0 (ar k (aL (⟨⟨zz,xa,xg,xl⟩,xy⟩:aP)) 141::fz zz::L) w':=by
 obtain⟨hk,ql,Mw⟩:=bb
 have dt:(cv xc).blocks.length=xc.blocks.xs.length:=fu _
 obtain⟨Bo,fP⟩:=get_some (xs:=xc.blocks.xs) (i:=(1 -xl).toNat) (by omega)
 have mbo:Mb Bo xc.blocks:=⟨List.mem_of_getElem? fP⟩
 have xr:=rh fP
 refine kl (args:=[_]) Tryz.func154 rfl Tryz.ntmps154 rfl hw ?_
 change Cw _ _ _ _ _ [(0, .pointer (some ⟨k,0,none⟩))] (ar k (aL (⟨⟨xc,xa,xg,xl⟩,xy⟩:aP)) 141::fz xc::L)
 refine Gc ?_
 iterate 2 refine Gs ?_
 refine Gc ?_
 iterate 4 refine Gs ?_
 refine ag (Ry.to (v':= .int .i64 xl) (bH rfl) rfl) ?_
 iterate 2 refine Gs ?_
 refine Gc ?_
 iterate 4 refine Gs ?_
 refine ag (Ry.to (v':= .int .i64 xl) (bH rfl) rfl) ?_
 refine Gs ?_
 refine pc (enc:=bG) (vals:=[_,_]) [xl,1 -xl] rfl rfl rfl (by decide) (by decide) fun pE=> ?_
 iterate 2 refine Gs ?_
 refine Gc ?_
 refine ca (X:=Nat) (fun zz=>[(21, .int .i64 (zz:Nat)),(0, .pointer (some ⟨k,0,none⟩)),(4, .int .i64 (1 -xl)),(19,(⟨false,pE,0,2,2,none⟩:Sv).val),(20, .int .i64 ([xl,1 -xl].length:Nat))]) (fun zz=>ar k (aL (⟨⟨xc,xa,xg,xl⟩,xy⟩:aP)) 141::fz xc::own bG 1 ⟨false,pE,0,2,2,none⟩ [xl,1 -xl]::L) (fun zz=>zz≤2∧ ∀(j:Nat) (y:Int),j<zz→[xl,1 -xl][j]? =Option.some y→ ¬0<dG (cv xc) y) (fun zz=>2 -zz) 0 ⟨Nat.zero_le _,fun j y hj=>by first|omega|(simp only[];omega)⟩ (Sub.cons rfl (Sub.cons rfl (Sub.cons rfl (Sub.cons rfl (Sub.cons rfl (Sub.nil _)))))) (fun w hw=>ah.mem hw) ?_
 rintro i ⟨bh,aF⟩
 refine Gc ?_
 refine Gs ?_
 refine Gc ?_
 refine au rfl (fun h0=> ?_) (fun h0=> ?_)
 ·
  replace h0:=bz h0
  obtain⟨y,hy⟩:=get_some (xs:=[xl,1 -xl]) (i:=i) (by simp only[List.length_cons,List.length_nil]at h0⊢;omega)
  have GF:i=0∨i=1:=by simp only[List.length_cons,List.length_nil]at h0;omega
  have Vd:y=0∨y=1:=by
   have:=List.mem_of_getElem? hy
   simp only[List.mem_cons,List.not_mem_nil,or_false]at this
   omega
  refine Gc ?_
  refine ag (bg rfl rfl i rfl (by omega)) ?_
  refine ag (bL (j:=0) rfl i hy rfl (by decide)) ?_
  refine Gs ?_
  refine Gc ?_
  iterate 2 refine Gs ?_
  refine fy (cC rfl ⟨hk,by omega,by omega⟩) ?_
  refine Gs ?_
  refine Gc ?_
  refine au rfl (fun h1=> ?_) (fun h1=> ?_)
  ·
   replace h1:=bz h1
   have hE:(aW (cv xc) xl)=(cv xc,y,0):=by
    rcases GF with rfl|rfl
    ·
     obtain rfl:xl=y:=by simpa using hy
     rw[aW,if_pos h1]
    ·
     obtain rfl:1 -xl=y:=by simpa using hy
     rw[aW,if_neg (aF 0 xl (by omega) rfl),if_pos h1]
   refine Gc ?_
   iterate 3 refine Gs ?_
   refine Gc ?_
   refine aq (.inl rfl) (bm rfl (ak rfl) (ak rfl)) (fun w1 hw=> ?_)
   exact⟨xc,by rw[hE],by rw[hE],ah.mem hw⟩
  ·
   replace h1:=bz h1
   refine Gc ?_
   iterate 2 refine Gs ?_
   refine Gi ?_
   exact bx (x:=(i)) (i+1) ⟨by first|omega|(simp only[];omega),fun j z hj hz=>if e:j=i then(by subst e;rw[hy]at hz;cases hz;exact h1)else aF j z (by first|omega|(simp only[];omega)) hz⟩ (by first|omega|(simp only[];omega)) (Sub.cons rfl (Sub.cons rfl (Sub.cons rfl (Sub.cons rfl (Sub.cons rfl (Sub.nil _)))))) (fun w hw=>ah.mem hw)
 ·
  replace h0:=bz h0
  have WJ:i=2:=by simp only[List.length_cons,List.length_nil]at h0 bh;omega
  subst WJ
  have tP:=aF 0 xl (by omega) rfl
  have xi:=aF 1 (1 -xl) (by omega) rfl
  refine Gc ?_
  iterate 5 refine Gs ?_
  refine ag (Ry.to (v':=xc.blocks.sv.val) (bH rfl) rfl) ?_
  refine Gs ?_
  refine ag (bg rfl rfl ((1 -xl).toNat) (by omega) (by omega)) ?_
  refine ag (aH rfl rfl) ?_
  refine ag (bL (j:=3) rfl ((1 -xl).toNat) fP rfl (by decide)) ?_
  refine Gc ?_
  refine au rfl (fun h2=> ?_) (fun h2=> ?_)
  ·
   replace h2:=bz h2
   have hE:(aW (cv xc) xl)=(cv xc,0,9):=by rw[aW,if_neg tP,if_neg xi,xr,if_pos (show(bv Bo).bad=true from h2)]
   refine Gc ?_
   iterate 2 refine Gs ?_
   refine Gc ?_
   refine aq (.inl rfl) (bm rfl (ak rfl) (ak rfl)) (fun w1 hw=> ?_)
   exact⟨xc,by rw[hE],by rw[hE],ah.mem hw⟩
  ·
   replace h2:=bz h2
   have hE:(aW (cv xc) xl)=(da (cv xc) (1 -xl),1 -xl,dF (cv xc) (1 -xl)):=by rw[aW,if_neg tP,if_neg xi,xr,if_neg (show ¬(bv Bo).bad=true by rw[show(bv Bo).bad=Bo.bad from rfl,h2];simp)]
   refine Gc ?_
   iterate 3 refine Gs ?_
   refine bq rfl ⟨hk,by omega,by omega⟩ fun WK WL=> ?_
   iterate 2 refine Gs ?_
   refine Gc ?_
   refine aq (.inl rfl) (bm rfl (ak rfl) (ak rfl)) (fun w1 hw=> ?_)
   exact⟨WK,by rw[hE],by rw[WL,hE],ah.mem hw⟩
instance ahI{w0:World}{L R1 L2:List ai}{i0 i1:Nat}{k:Nat}{xc:Cp}{xa:Sl Int}{xg:UInt64}{xl:Int}{xy:Bool}[q0:Has L k (aL (⟨⟨xc,xa,xg,xl⟩,xy⟩:aP)) 141 i0][d0:dq L i0 R1][q1:At R1 (fz xc) i1][d1:dq R1 i1 L2]:cl Tryz.prog 154 w0 L [.pointer (some ⟨k,0,none⟩)] (Cp) (fun zz=> .tuple #[.int .i64 ((aW (cv xc) xl).2.1), .int .i64 ((aW (cv xc) xl).2.2)]) (fun zz=>ar k (aL (⟨⟨zz,xa,xg,xl⟩,xy⟩:aP)) 141::fz zz::L2) (fun zz=>cv zz=(aW (cv xc) xl).1) (aT (cv xc)=true∧2≤(cv xc).blocks.length∧(xl=0∨xl=1)):=⟨fun hp w hw=>WI w0 w L2 k xc xa xg xl xy (sr q0.h d0.h q1.h d1.h hw) hp⟩
theorem GG{g:UInt64}(h:g.toNat<281474976710656):(g+1).toNat=g.toNat+1:=by
 rw[UInt64.toNat_add,show(1:UInt64).toNat=1 from rfl,Nat.mod_eq_of_lt (by omega)]
theorem MC(g:UInt64)(s:Sv)(xs:List Int)(w:World):(Instr.build 147 #[(0, .int .u64 (g.toNat:Int)),(1,s.val)]).run Tryz.prog w= .ok (.agg (dB ⟨g,⟨s,xs⟩⟩)) w:=by
 obtain⟨e,b,o,l,c,p⟩:=s
 unfold dB
 cases e<;>kernel_rfl
theorem WM(w0 w:World)(L:List ai)(k:Nat)(xc:Cp)(xa:Sl Int)(xg:UInt64)(xl:Int)(xy:Bool)(s:Sv)(ss:List Int)(hw:Mem w0 (ar k (aL (⟨⟨xc,xa,xg,xl⟩,xy⟩:aP)) 141::fz xc::fz xa::own bG 1 s ss::L) w)(bb:cO (⟨⟨cv xc,xa.xs,xg.toNat,xl⟩,xy⟩:WV)):Calls Tryz.prog 128 #[.pointer (some ⟨k,0,none⟩),s.val] w fun e w'=> ∃zz:Cp×Sl Int×UInt64×Int,e= .returned (.int .i64 ((dI (⟨⟨cv xc,xa.xs,xg.toNat,xl⟩,xy⟩:WV) ss).2))∧((⟨⟨cv zz.1,zz.2.1.xs,zz.2.2.1.toNat,zz.2.2.2⟩,xy⟩:WV)=(dI (⟨⟨cv xc,xa.xs,xg.toNat,xl⟩,xy⟩:WV) ss).1)∧Mem w0 (ar k (aL (⟨⟨zz.1,zz.2.1,zz.2.2.1,zz.2.2.2⟩,xy⟩:aP)) 141::fz zz.1::fz zz.2.1::L) w':=by
 have gm:=bb
 have hk:aT (cv xc)=true:=gm.ae
 have zH:xg.toNat<281474976710656:=gm.gen
 have rG:=GG zH
 have xC:4≤(cv xc).blocks.length:=gm.qo
 have CG:xl=0∨xl=1:=gm.last
 have xD:df (⟨xg+1,⟨s,ss⟩⟩:dd)=⟨xg.toNat+1,ss⟩:=by simp only[df,rG]
 refine kl (args:=[_,_]) Tryz.func128 rfl Tryz.ntmps128 rfl hw ?_
 change Cw _ _ _ _ _ [(0, .pointer (some ⟨k,0,none⟩)),(1,s.val)] (ar k (aL (⟨⟨xc,xa,xg,xl⟩,xy⟩:aP)) 141::fz xc::fz xa::own bG 1 s ss::L)
 refine Gc ?_
 refine Gs ?_
 refine Gc ?_
 iterate 4 refine Gs ?_
 refine ag (Ry.to (v':= .int .u64 (xg.toNat:Nat)) (bH rfl) rfl) ?_
 refine ag (Ry.to (v':= .int .u64 ((xg+1).toNat:Int)) (yo (p:=xg.toNat) (q:=1) rfl rfl rfl rfl (by simp only[nb];omega)) (by rw[rG])) ?_
 refine Gs ?_
 refine Gc ?_
 iterate 2 refine Gs ?_
 refine ag (cR (v:= .agg (dB (⟨xg+1,⟨s,ss⟩⟩:dd))) rfl (MC (xg+1) s ss)) ?_
 iterate 5 refine Gs ?_
 refine ag (Ry.to (v':= .int .i64 xc.size) (bH rfl) rfl) ?_
 refine bq rfl trivial fun kh qz=> ?_
 refine Gs ?_
 refine ag (aV (v:=kh.val) rfl rfl) ?_
 refine ag (aV (v:= .int .i64 ((cN (df (⟨xg+1,⟨s,ss⟩⟩:dd)) xc.size).2)) rfl rfl) ?_
 iterate 2 refine Gs ?_
 refine Gc ?_
 iterate 2 refine Gs ?_
 refine Gc ?_
 refine au rfl (fun h0=> ?_) (fun h0=> ?_)
 ·
  replace h0:=bz h0
  have hE:(dI (⟨⟨cv xc,xa.xs,xg.toNat,xl⟩,xy⟩:WV) ss)=((⟨⟨cv xc,xa.xs,xg.toNat,xl⟩,xy⟩:WV),(cN (df (⟨xg+1,⟨s,ss⟩⟩:dd)) xc.size).2):=by rw[dI,if_pos (show(cN ⟨xg.toNat+1,ss⟩ (cv xc).size).2≠0 by rw[←xD];exact h0),xD];rfl
  refine Gc ?_
  iterate 2 refine Gs ?_
  refine Gc ?_
  refine aq (.inl rfl) (aI rfl (ak rfl)) (fun w1 hw=> ?_)
  exact⟨(xc,xa,xg,xl),by rw[hE],by rw[hE],ah.mem hw⟩
 ·
  replace h0:=bz h0
  refine Gc ?_
  refine ca (X:=Nat×Cp) (fun zz=>[(0, .pointer (some ⟨k,0,none⟩)),(1,s.val),(5, .int .u64 ((xg+1).toNat:Nat)),(6,kh.val)]) (fun zz=>ar k (aL (⟨⟨zz.2,xa,xg,xl⟩,xy⟩:aP)) 141::fz zz.2::fz xa::own bG 1 s ss::own aM 1 kh (cN (df (⟨xg+1,⟨s,ss⟩⟩:dd)) xc.size).1::L) (fun zz=>(dI (⟨⟨cv xc,xa.xs,xg.toNat,xl⟩,xy⟩:WV) ss)=gf zz.1 ((⟨⟨cv xc,xa.xs,xg.toNat,xl⟩,xy⟩:WV).on (cv zz.2)) ss (cN (df (⟨xg+1,⟨s,ss⟩⟩:dd)) xc.size).1∧aT (cv zz.2)=true∧dw (cv xc) (cv zz.2)∧(cI -(cv zz.2).ops).toNat<zz.1) (fun zz=>zz.1) ((cI -(cv xc).ops).toNat+1,xc) ⟨by rw[dI,if_neg (show ¬(cN ⟨xg.toNat+1,ss⟩ (cv xc).size).2≠0 by rw[←xD];exact fun h=>h h0),xD];rfl,hk, .cX _,by simp only;omega⟩ (Sub.cons rfl (Sub.cons rfl (Sub.cons rfl (Sub.cons rfl (Sub.nil _))))) (fun w hw=>ah.mem hw) ?_
  rintro⟨m,d⟩ ⟨bh,aF,bt,cS⟩
  dsimp only
  simp only at bh aF bt cS
  obtain⟨n,rfl⟩: ∃n,m=n+1:=⟨m -1,by omega⟩
  refine Gc ?_
  refine Gs ?_
  refine bq rfl ⟨aF,by rw[bt.len];omega,CG⟩ fun nn GH=> ?_
  obtain⟨r1,r2,r3,r4⟩:=BX (c:=cv d) (last:=xl) aF CG
  rw[←GH]at r1 r2 r3 r4
  have r7:=bt.trans r2
  have tF:=r7.len
  have WE:=bt.len
  have MA:=qm r1
  refine Gs ?_
  refine ag (aV (v:= .int .i64 ((aW (cv d) xl).2.1)) rfl rfl) ?_
  refine ag (aV (v:= .int .i64 ((aW (cv d) xl).2.2)) rfl rfl) ?_
  iterate 2 refine Gs ?_
  refine Gc ?_
  iterate 2 refine Gs ?_
  refine Gc ?_
  refine au rfl (fun h1=> ?_) (fun h1=> ?_)
  ·
   replace h1:=bz h1
   have hE:(dI (⟨⟨cv xc,xa.xs,xg.toNat,xl⟩,xy⟩:WV) ss)=((⟨⟨cv xc,xa.xs,xg.toNat,xl⟩,xy⟩:WV).on (cv nn),(aW (cv d) xl).2.2):=by
    rw[bh,gf]
    refine(if_pos h1).trans ?_
    rw[GH];rfl
   refine Gc ?_
   iterate 2 refine Gs ?_
   refine Gc ?_
   refine aq (.inl rfl) (aI rfl (ak rfl)) (fun w1 hw=> ?_)
   exact⟨(nn,xa,xg,xl),by rw[hE],by rw[hE];rfl,ah.mem hw⟩
  ·
   replace h1:=bz h1
   have ez:(aW (cv d) xl).2.2=0:=h1
   obtain⟨r5,r6⟩:=r4 ez
   have bA:(dI (⟨⟨cv xc,xa.xs,xg.toNat,xl⟩,xy⟩:WV) ss)=(if(bC (cv nn) (aW (cv d) xl).2.1 (cN (df (⟨xg+1,⟨s,ss⟩⟩:dd)) xc.size).1)=0 then((⟨⟨(bD (cv nn) (aW (cv d) xl).2.1 (cN (df (⟨xg+1,⟨s,ss⟩⟩:dd)) xc.size).1),ss,xg.toNat+1,if j8 (bD (cv nn) (aW (cv d) xl).2.1 (cN (df (⟨xg+1,⟨s,ss⟩⟩:dd)) xc.size).1) 1=xg.toNat+1 then 1 else(aW (cv d) xl).2.1⟩,xy⟩:WV),(0:Int))else if(bC (cv nn) (aW (cv d) xl).2.1 (cN (df (⟨xg+1,⟨s,ss⟩⟩:dd)) xc.size).1)≠9 then((⟨⟨cv xc,xa.xs,xg.toNat,xl⟩,xy⟩:WV).on (bD (cv nn) (aW (cv d) xl).2.1 (cN (df (⟨xg+1,⟨s,ss⟩⟩:dd)) xc.size).1),(bC (cv nn) (aW (cv d) xl).2.1 (cN (df (⟨xg+1,⟨s,ss⟩⟩:dd)) xc.size).1))else gf n ((⟨⟨cv xc,xa.xs,xg.toNat,xl⟩,xy⟩:WV).on (bD (cv nn) (aW (cv d) xl).2.1 (cN (df (⟨xg+1,⟨s,ss⟩⟩:dd)) xc.size).1)) ss (cN (df (⟨xg+1,⟨s,ss⟩⟩:dd)) xc.size).1):=by
    rw[bh,gf]
    refine(if_neg (fun h=>h ez)).trans ?_
    rw[GH];rfl
   refine Gc ?_
   iterate 3 refine Gs ?_
   refine bq rfl ⟨r1,by omega,by omega⟩ fun jC pI=> ?_
   refine Gs ?_
   refine Gc ?_
   iterate 2 refine Gs ?_
   refine Gc ?_
   refine au rfl (fun h2=> ?_) (fun h2=> ?_)
   ·
    replace h2:=bz h2
    have fa:(bC (cv nn) (aW (cv d) xl).2.1 (cN (df (⟨xg+1,⟨s,ss⟩⟩:dd)) xc.size).1)=0:=h2
    rw[if_pos fa]at bA
    refine Gc ?_
    refine Gs ?_
    refine fy (cC rfl ⟨by rw[pI];exact kz r1 _ _,by omega,by rw[pI,(gU _ _ _).len];omega⟩) ?_
    iterate 2 refine Gs ?_
    refine Gc ?_
    refine au rfl (fun h3=> ?_) (fun h3=> ?_)
    ·
     replace h3:=bz h3
     have hE:=bA
     rw[if_pos (show j8 (bD (cv nn) (aW (cv d) xl).2.1 (cN (df (⟨xg+1,⟨s,ss⟩⟩:dd)) xc.size).1) 1=xg.toNat+1 by rw[←pI];omega)]at hE
     refine Gi ?_
     refine Gs ?_
     refine Gc ?_
     iterate 9 refine Gs ?_
     refine eN (cs':=aL (⟨⟨jC,⟨s,ss⟩,xg,xl⟩,xy⟩:aP)) rfl rfl (by show 6<10;decide) (by first|rfl|exact Sv.one _) rfl ?_
     iterate 3 refine Gs ?_
     refine eN (cs':=aL (⟨⟨jC,⟨s,ss⟩,(xg+1),xl⟩,xy⟩:aP)) rfl rfl (by show 7<10;decide) (by first|rfl|exact Sv.one _) rfl ?_
     iterate 3 refine Gs ?_
     refine eN (cs':=aL (⟨⟨jC,⟨s,ss⟩,(xg+1),1⟩,xy⟩:aP)) rfl rfl (by show 8<10;decide) (by first|rfl|exact Sv.one _) rfl ?_
     refine Gc ?_
     refine Gs ?_
     refine Gc ?_
     refine aq (.inl rfl) (aI rfl (ak rfl)) (fun w1 hw=> ?_)
     exact⟨(jC,⟨s,ss⟩,xg+1,1),by rw[hE],by rw[hE,pI,rG],ah.mem (uS (a:=⟨s,ss⟩) (ah.mem hw:Mem w0 (own bG 1 s ss::ar k (aL (⟨⟨jC,⟨s,ss⟩,xg+1,1⟩,xy⟩:aP)) 141::fz jC::L) _))⟩
    ·
     replace h3:=bz h3
     have hE:=bA
     rw[if_neg (show ¬j8 (bD (cv nn) (aW (cv d) xl).2.1 (cN (df (⟨xg+1,⟨s,ss⟩⟩:dd)) xc.size).1) 1=xg.toNat+1 by rw[←pI];omega)]at hE
     refine Gc ?_
     iterate 9 refine Gs ?_
     refine eN (cs':=aL (⟨⟨jC,⟨s,ss⟩,xg,xl⟩,xy⟩:aP)) rfl rfl (by show 6<10;decide) (by first|rfl|exact Sv.one _) rfl ?_
     iterate 3 refine Gs ?_
     refine eN (cs':=aL (⟨⟨jC,⟨s,ss⟩,(xg+1),xl⟩,xy⟩:aP)) rfl rfl (by show 7<10;decide) (by first|rfl|exact Sv.one _) rfl ?_
     iterate 3 refine Gs ?_
     refine eN (cs':=aL (⟨⟨jC,⟨s,ss⟩,(xg+1),(aW (cv d) xl).2.1⟩,xy⟩:aP)) rfl rfl (by show 8<10;decide) (by first|rfl|exact Sv.one _) rfl ?_
     refine Gc ?_
     refine Gs ?_
     refine Gc ?_
     refine aq (.inl rfl) (aI rfl (ak rfl)) (fun w1 hw=> ?_)
     exact⟨(jC,⟨s,ss⟩,xg+1,(aW (cv d) xl).2.1),by rw[hE],by rw[hE,pI,rG],ah.mem (uS (a:=⟨s,ss⟩) (ah.mem hw:Mem w0 (own bG 1 s ss::ar k (aL (⟨⟨jC,⟨s,ss⟩,xg+1,(aW (cv d) xl).2.1⟩,xy⟩:aP)) 141::fz jC::L) _))⟩
   ·
    replace h2:=bz h2
    have fa: ¬(bC (cv nn) (aW (cv d) xl).2.1 (cN (df (⟨xg+1,⟨s,ss⟩⟩:dd)) xc.size).1)=0:=h2
    refine Gc ?_
    iterate 2 refine Gs ?_
    refine Gc ?_
    refine au rfl (fun h4=> ?_) (fun h4=> ?_)
    ·
     replace h4:=bz h4
     have hE:=bA
     rw[if_neg fa,if_pos (show(bC (cv nn) (aW (cv d) xl).2.1 (cN (df (⟨xg+1,⟨s,ss⟩⟩:dd)) xc.size).1)≠9 from h4)]at hE
     refine Gc ?_
     iterate 2 refine Gs ?_
     refine Gc ?_
     refine aq (.inl rfl) (aI rfl (ak rfl)) (fun w1 hw=> ?_)
     exact⟨(jC,xa,xg,xl),by rw[hE],by rw[hE,pI];rfl,ah.mem hw⟩
    ·
     replace h4:=bz h4
     iterate 2 refine Gi ?_
     have jg:(bC (cv nn) (aW (cv d) xl).2.1 (cN (df (⟨xg+1,⟨s,ss⟩⟩:dd)) xc.size).1)=9:=h4
     have zG:=rf r6 (p:=(cN (df (⟨xg+1,⟨s,ss⟩⟩:dd)) xc.size).1) (.inl jg)
     have GD:=qm (kz r1 (aW (cv d) xl).2.1 (cN (df (⟨xg+1,⟨s,ss⟩⟩:dd)) xc.size).1)
     rw[zG]at GD
     exact bx (x:=(n+1,d)) (n,jC) ⟨by rw[bA,if_neg fa,if_neg (fun h=>h jg),pI],by rw[pI];exact kz r1 _ _,by rw[pI];exact r7.trans (gU _ _ _),by rw[pI,zG];omega⟩ (by simp only;omega) (Sub.cons rfl (Sub.cons rfl (Sub.cons rfl (Sub.cons rfl (Sub.nil _))))) (fun w hw=>ah.mem hw)
instance ahJ{w0:World}{L R1 R2 R3 L2:List ai}{i0 i1 i2 i3:Nat}{k:Nat}{xc:Cp}{xa:Sl Int}{xg:UInt64}{xl:Int}{xy:Bool}{s:Sv}{ss:List Int}[q0:Has L k (aL (⟨⟨xc,xa,xg,xl⟩,xy⟩:aP)) 141 i0][d0:dq L i0 R1][q1:At R1 (fz xc) i1][d1:dq R1 i1 R2][q2:At R2 (fz xa) i2][d2:dq R2 i2 R3][q3:fD R3 s bG 1 ss i3][d3:dq R3 i3 L2]:cl Tryz.prog 128 w0 L [.pointer (some ⟨k,0,none⟩),s.val] (Cp×Sl Int×UInt64×Int) (fun zz=> .int .i64 ((dI (⟨⟨cv xc,xa.xs,xg.toNat,xl⟩,xy⟩:WV) ss).2)) (fun zz=>ar k (aL (⟨⟨zz.1,zz.2.1,zz.2.2.1,zz.2.2.2⟩,xy⟩:aP)) 141::fz zz.1::fz zz.2.1::L2) (fun zz=>(⟨⟨cv zz.1,zz.2.1.xs,zz.2.2.1.toNat,zz.2.2.2⟩,xy⟩:WV)=(dI (⟨⟨cv xc,xa.xs,xg.toNat,xl⟩,xy⟩:WV) ss).1) (cO (⟨⟨cv xc,xa.xs,xg.toNat,xl⟩,xy⟩:WV)):=⟨fun hp w hw=>WM w0 w L2 k xc xa xg xl xy s ss (Vi q0.h d0.h q1.h d1.h q2.h d2.h q3.h d3.h hw) hp⟩
open Go.aC Go.Kb
open Go.RowKit
theorem WN(i:Int)(g:UInt64)(s:Sv)(xs:List UInt8)(w:World):(Instr.build 110 #[(0, .int .i64 1),(1, .int .i64 i),(2, .int .u64 (g.toNat:Int)),(3,s.val)]).run Tryz.prog w= .ok (.agg (cG ⟨1,i,g,⟨s,xs⟩⟩)) w:=by
 obtain⟨e,b,o,l,c,p⟩:=s
 unfold cG
 cases e<;>kernel_rfl
theorem WO(w0 w:World)(L:List ai)(k:Nat)(xc:Cp)(xa:Sl Int)(xg:UInt64)(xl:Int)(xy:Bool)(f:Int)(t:Int)(hw:Mem w0 (ar k (aL (⟨⟨xc,xa,xg,xl⟩,xy⟩:aP)) 141::fz xc::fz xa::L) w)(bb:cO (⟨⟨cv xc,xa.xs,xg.toNat,xl⟩,xy⟩:WV)∧2≤f∧f<(cv xc).blocks.length∧(0≤t→2≤t∧t<(cv xc).blocks.length)):Calls Tryz.prog 183 #[.pointer (some ⟨k,0,none⟩), .int .i64 f, .int .i64 t] w fun e w'=> ∃zz:Cp×Sl Int×UInt64×Int,e= .returned (.tuple #[.bool ((cU (⟨⟨cv xc,xa.xs,xg.toNat,xl⟩,xy⟩:WV) f t).2.1), .int .i64 ((cU (⟨⟨cv xc,xa.xs,xg.toNat,xl⟩,xy⟩:WV) f t).2.2)])∧((⟨⟨cv zz.1,zz.2.1.xs,zz.2.2.1.toNat,zz.2.2.2⟩,xy⟩:WV)=(cU (⟨⟨cv xc,xa.xs,xg.toNat,xl⟩,xy⟩:WV) f t).1)∧Mem w0 (ar k (aL (⟨⟨zz.1,zz.2.1,zz.2.2.1,zz.2.2.2⟩,xy⟩:aP)) 141::fz zz.1::fz zz.2.1::L) w':=by
 obtain⟨gm,mf,wo,Gm⟩:=bb
 have hk:aT (cv xc)=true:=gm.ae
 have xC:4≤(cv xc).blocks.length:=gm.qo
 have hd:=eF hk
 have zH:xg.toNat<281474976710656:=gm.gen
 have rG:=GG zH
 have dD:xa.xs.length≤64:=gm.ka
 have sF:gV (cv xc) xa.xs:=gm.si
 have MD:1≤xc.pages∧xc.pages≤16:=⟨hd.2.2.1,hd.2.2.2.1⟩
 refine kl (args:=[_,_,_]) Tryz.func183 rfl Tryz.ntmps183 rfl hw ?_
 change Cw _ _ _ _ _ [(0, .pointer (some ⟨k,0,none⟩)),(1, .int .i64 f),(2, .int .i64 t)] (ar k (aL (⟨⟨xc,xa,xg,xl⟩,xy⟩:aP)) 141::fz xc::fz xa::L)
 refine Gc ?_
 iterate 2 refine Gs ?_
 refine Gc ?_
 iterate 5 refine Gs ?_
 refine ag (Ry.to (v':= .int .i64 xc.pages) (bH rfl) rfl) ?_
 refine Gs ?_
 refine Gc ?_
 iterate 4 refine Gs ?_
 refine ag (Ry.to (v':=xa.sv.val) (bH rfl) rfl) ?_
 refine bq rfl (by omega) fun az sE=> ?_
 refine Gs ?_
 refine Gc ?_
 iterate 4 refine Gs ?_
 refine ag (Ry.to (v':=xa.sv.val) (bH rfl) rfl) ?_
 iterate 2 refine Gs ?_
 refine Gc ?_
 refine ca (X:=Nat×Cp×List Int) (fun zz=>[(39, .int .i64 (zz.1:Nat)),(0, .pointer (some ⟨k,0,none⟩)),(9,az.val),(1, .int .i64 f),(2, .int .i64 t),(8, .int .i64 xc.pages),(37,xa.sv.val),(38, .int .i64 (xa.xs.length:Nat))]) (fun zz=>ar k (aL (⟨⟨zz.2.1,xa,xg,xl⟩,xy⟩:aP)) 141::fz zz.2.1::fz xa::own bG 1 az zz.2.2::L) (fun zz=>zz.1≤xa.xs.length∧(bV (⟨cv xc,xa.xs,xg.toNat,xl⟩:VV) f t xa.xs 0 (cv xc) xa.xs)=(bV (⟨cv xc,xa.xs,xg.toNat,xl⟩:VV) f t (xa.xs.drop zz.1) zz.1 (cv zz.2.1) zz.2.2)∧aT (cv zz.2.1)=true∧dw (cv xc) (cv zz.2.1)∧zz.2.2.length=xa.xs.length∧gV (cv xc) zz.2.2) (fun zz=>xa.xs.length -zz.1) (0,xc,xa.xs) ⟨Nat.zero_le _,rfl,hk, .cX _,rfl,sF⟩ (Sub.cons rfl (Sub.cons rfl (Sub.cons rfl (Sub.cons rfl (Sub.cons rfl (Sub.cons rfl (Sub.cons rfl (Sub.cons rfl (Sub.nil _))))))))) (fun w hw=>ah.mem hw) ?_
 rintro⟨i,d,zs⟩ ⟨bh,aF,bt,cS,zI,CH⟩
 dsimp only
 simp only at bh aF bt cS zI CH
 have CI:=cS.len
 have zJ:d.pages=xc.pages:=cS.pages
 have iJ:(cv d).blocks.length=d.blocks.xs.length:=fu _
 refine Gc ?_
 refine Gs ?_
 refine Gc ?_
 refine au rfl (fun h0=> ?_) (fun h0=> ?_)
 ·
  replace h0:=bz h0
  obtain⟨n,tL⟩:=get_some (xs:=xa.xs) (i:=i) (by omega)
  obtain⟨zi,nP⟩:=get_some (xs:=zs) (i:=i) (by omega)
  have GI:=sF n (List.mem_of_getElem? tL)
  have hnn:0≤n:=by rcases GI with h|h<;>omega
  have hnp:n≤512:=by
   rcases GI with h|h
   ·
    omega
   ·
    exact Fc MD.1 MD.2 hd.2.1 h.2.2
  have bA:(bV (⟨cv xc,xa.xs,xg.toNat,xl⟩:VV) f t (xa.xs.drop i) i (cv d) zs)=(if n=0∨(n -1)/xc.pages≠f then(bV (⟨cv xc,xa.xs,xg.toNat,xl⟩:VV) f t (xa.xs.drop (i+1)) (i+1) (cv d) zs)else if(cf (cv d) xa.xs zs f t).2=false then(⟨cv d,zs,some 6⟩:MV)else if(dJ (cv d) ((xg.toNat:Int)+1) i n).2≠0 then⟨cv d,zs,some (dJ (cv d) ((xg.toNat:Int)+1) i n).2⟩else if(bC (cv d) (cf (cv d) xa.xs zs f t).1 (dJ (cv d) ((xg.toNat:Int)+1) i n).1)≠0 then⟨(bD (cv d) (cf (cv d) xa.xs zs f t).1 (dJ (cv d) ((xg.toNat:Int)+1) i n).1),zs,some (iZ (bC (cv d) (cf (cv d) xa.xs zs f t).1 (dJ (cv d) ((xg.toNat:Int)+1) i n).1))⟩else(bV (⟨cv xc,xa.xs,xg.toNat,xl⟩:VV) f t (xa.xs.drop (i+1)) (i+1) (bD (cv d) (cf (cv d) xa.xs zs f t).1 (dJ (cv d) ((xg.toNat:Int)+1) i n).1) (zs.set i ((cf (cv d) xa.xs zs f t).1*xc.pages+(aj (cv d) (cf (cv d) xa.xs zs f t).1).used+1)))):=by
   rw[wN tL,bV];rfl
  refine Gc ?_
  refine Gs ?_
  refine ag (bg rfl rfl i rfl (by omega)) ?_
  refine ag (bL (j:=0) rfl i tL rfl (by decide)) ?_
  iterate 2 refine Gs ?_
  refine Gc ?_
  iterate 3 refine Gs ?_
  refine Gg ?_
  refine bZ rfl rfl rfl (fun hg=>(Ry.yl (yj (aG hg rfl) rfl (by simp only[Z0,Z1,Z2,Z3,Z4,Z5,Z6,Z7,Z8,Z9]at hg;omega)))) ?_
  refine Gg ?_
  refine bZ rfl rfl rfl (fun hg=>(Ry.yl (oc (aG hg rfl) (aG hg rfl) (by simp only[Z0,Z1,Z2,Z3,Z4,Z5,Z6,Z7,Z8,Z9]at hg;omega) (by simp only[Z0,Z1,Z2,Z3,Z4,Z5,Z6,Z7,Z8,Z9]at hg;omega)))) ?_
  iterate 2 refine Gg ?_
  refine Gs ?_
  refine Gc ?_
  refine au rfl (fun h1=> ?_) (fun h1=> ?_)
  ·
   replace h1:=bz h1
   refine Gc ?_
   iterate 2 refine Gs ?_
   refine Gi ?_
   exact bx (x:=(i,d,zs)) (i+1,d,zs) ⟨by simp only;omega,by rw[aF,bA,if_pos h1],bt,cS,zI,CH⟩ (by simp only;omega) (Sub.cons rfl (Sub.cons rfl (Sub.cons rfl (Sub.cons rfl (Sub.cons rfl (Sub.cons rfl (Sub.cons rfl (Sub.cons rfl (Sub.nil _))))))))) (fun w hw=>ah.mem hw)
  ·
   replace h1:=bz h1
   have ez: ¬(n=0∨(n -1)/xc.pages≠f):=fun g=>g.elim h1.1 (fun g=>g h1.2)
   have CJ:1≤n∧n≤1000000∧2≤(n -1)/d.pages∧(n -1)/d.pages<((cv d).blocks.length:Int):=by
    rw[zJ,CI]
    rcases GI with h|h
    ·
     exact absurd (.inl h) ez
    ·
     exact⟨h.1,by omega,h.2.1,h.2.2⟩
   refine Gc ?_
   iterate 2 refine Gs ?_
   iterate 2 refine Gi ?_
   refine vV (X:=Unit) (fun zz=>[(12, .int .i64 ((cf (cv d) xa.xs zs f t).1)),(0, .pointer (some ⟨k,0,none⟩)),(1, .int .i64 f),(2, .int .i64 t),(8, .int .i64 xc.pages),(9,az.val),(10, .int .i64 (i:Nat)),(37,xa.sv.val),(38, .int .i64 (xa.xs.length:Nat)),(39, .int .i64 (i:Nat))]) (fun zz=>ar k (aL (⟨⟨d,xa,xg,xl⟩,xy⟩:aP)) 141::fz d::fz xa::own bG 1 az zs::L) (fun zz=>(cf (cv d) xa.xs zs f t).2=true∧2≤(cf (cv d) xa.xs zs f t).1∧(cf (cv d) xa.xs zs f t).1<(cv d).blocks.length) ?_ ?_
   ·
    refine Gc ?_
    iterate 2 refine Gs ?_
    refine Gc ?_
    refine au rfl (fun h2=> ?_) (fun h2=> ?_)
    ·
     replace h2:=bz h2
     refine Gi ?_
     have ei:aw [xa,(⟨az,zs⟩:Sl Int)]=xa.xs++zs:=Gz _ _
     have rF:=kA (cv d) (aw [xa,(⟨az,zs⟩:Sl Int)])
     obtain⟨q,hq⟩:=get_some (xs:=(av (cv d) (aw [xa,(⟨az,zs⟩:Sl Int)]))) (i:=(f -2).toNat) (by rw[kA];omega)
     have oN:qe (cv d) (aw [xa,(⟨az,zs⟩:Sl Int)]):=by
      rw[Gz]
      exact((sF.bS cS).append (CH.bS cS)).kn bt (by omega) (by rw[List.length_append];omega)
     refine Gi ?_
     iterate 5 refine Gs ?_
     refine ag (Ry.to (v':=xa.sv.val) (bH rfl) rfl) ?_
     refine Gs ?_
     refine pc (enc:=bY) (vals:=[xa.sv.val,az.val]) [xa,(⟨az,zs⟩:Sl Int)] rfl (by simp only[List.map_cons,List.map_nil,Sv.iU];rfl) rfl (by decide) (by decide) fun WQ=> ?_
     refine bq (hc:=Gy (l:=(⟨⟨false,WQ,0,2,2,none⟩,[xa,⟨az,zs⟩]⟩:Sl (Sl Int)))) rfl oN fun WR ahK=> ?_
     refine Gs ?_
     refine Gc ?_
     iterate 3 refine Gs ?_
     refine ag (cR (v:= .agg (br bj)) rfl CF) ?_
     refine ag (bg rfl rfl ((f -2).toNat) (by omega) (show(f -2).toNat<(av (cv d) (aw [xa,(⟨az,zs⟩:Sl Int)])).length by omega)) ?_
     refine kO (s:=WR) (n:=4) (k:=(f -2).toNat) (j:=0) (a:=q) (a':=bj) (xs:=(av (cv d) (aw [xa,(⟨az,zs⟩:Sl Int)]))) (enc:=br) (c:=4) (v:= .agg (br bj)) (by kernel_rfl) rfl rfl rfl hq (bu.one (enc:=br) (c:=4) _) rfl (by decide) (by rfl) ?_
     refine Gc ?_
     iterate 4 refine Gs ?_
     refine ag (aV (v:= .int .i64 ((eE ((av (cv d) (aw [xa,(⟨az,zs⟩:Sl Int)])).set (f -2).toNat bj) xc.pages).1)) rfl rfl) ?_
     refine ag (aV (v:= .bool ((eE ((av (cv d) (aw [xa,(⟨az,zs⟩:Sl Int)])).set (f -2).toNat bj) xc.pages).2)) rfl rfl) ?_
     iterate 2 refine Gs ?_
     refine Gc ?_
     iterate 2 refine Gs ?_
     refine Gc ?_
     refine au rfl (fun h3=> ?_) (fun h3=> ?_)
     ·
      replace h3:=bz h3
      have xo:(cf (cv d) xa.xs zs f t).2=false:=by rw[cf,if_pos h2,←ei,if_neg];rw[show(cv d).pages=xc.pages from zJ,h3];simp
      have hE:=Fo (x:=(⟨⟨cv xc,xa.xs,xg.toNat,xl⟩,xy⟩:WV)) (src:=f) (to:=t) (show bV _ _ _ _ _ _ _=_ from(aF.trans (bA.trans ((if_neg ez).trans (if_pos xo)))))
      refine Gc ?_
      iterate 2 refine Gs ?_
      refine Gc ?_
      refine aq (.inl rfl) (bm rfl (ak rfl) (ak rfl)) (fun w1 hw=> ?_)
      exact⟨(d,xa,xg,xl),by rw[hE],by rw[hE];rfl,ah.mem hw⟩
     ·
      replace h3:=bz h3
      have rB:=wM (show(fj _ _ _ _).2=true from h3)
      have CK:(cf (cv d) xa.xs zs f t)=((eE ((av (cv d) (aw [xa,(⟨az,zs⟩:Sl Int)])).set (f -2).toNat bj) xc.pages).1+2,true):=by rw[cf,if_pos h2,←ei,show(cv d).pages=xc.pages from zJ,if_pos h3]
      have ahL:0≤(eE ((av (cv d) (aw [xa,(⟨az,zs⟩:Sl Int)])).set (f -2).toNat bj) xc.pages).1:=rB.2.1
      have WS:(eE ((av (cv d) (aw [xa,(⟨az,zs⟩:Sl Int)])).set (f -2).toNat bj) xc.pages).1<(((av (cv d) (aw [xa,(⟨az,zs⟩:Sl Int)])).set (f -2).toNat bj).length:Int):=rB.2.2.1
      rw[List.length_set,kA]at WS
      refine Gc ?_
      iterate 3 refine Gs ?_
      refine Gi ?_
      exact oZ () ⟨by rw[CK],by rw[CK];simp only;omega,by rw[CK];simp only;omega⟩ (Sub.cons (look_eq rfl (by rw[CK])) (Sub.cons rfl (Sub.cons rfl (Sub.cons rfl (Sub.cons rfl (Sub.cons rfl (Sub.cons rfl (Sub.cons rfl (Sub.cons rfl (Sub.cons rfl (Sub.nil _))))))))))) (fun w hw=>ah.mem hw)
    ·
     replace h2:=bz h2
     refine Gi ?_
     exact oZ () ⟨by rw[cf,if_neg h2],by rw[cf,if_neg h2];exact(Gm (by first|omega|(simp only[];omega))).1,by rw[cf,if_neg h2,CI];exact(Gm (by first|omega|(simp only[];omega))).2⟩ (Sub.cons (look_eq rfl (by rw[cf,if_neg h2])) (Sub.cons rfl (Sub.cons rfl (Sub.cons rfl (Sub.cons rfl (Sub.cons rfl (Sub.cons rfl (Sub.cons rfl (Sub.cons rfl (Sub.cons rfl (Sub.nil _))))))))))) (fun w hw=>ah.mem hw)
   ·
    rintro⟨⟩ ⟨sG,tV,xE⟩
    obtain⟨B,hB⟩:=get_some (xs:=d.blocks.xs) (i:=(cf (cv d) xa.xs zs f t).1.toNat) (by omega)
    have qx:Mb B d.blocks:=⟨List.mem_of_getElem? hB⟩
    have eH:=rh hB
    have oP:(aj (cv d) (cf (cv d) xa.xs zs f t).1).used=B.used:=by rw[eH];rfl
    have fP:=dX.1 (qj bt (b:=(cf (cv d) xa.xs zs f t).1) (by omega) (by omega))
    rw[oP,show(cv d).pages=xc.pages from zJ]at fP
    have mD:0≤(cf (cv d) xa.xs zs f t).1*xc.pages:=Int.mul_nonneg (by omega) (by omega)
    have nR:(cf (cv d) xa.xs zs f t).1*xc.pages≤32*16:=Int.mul_le_mul (by omega) (by omega) (by omega) (by omega)
    refine Gi ?_
    refine qa [12,14,15,2014,4012] [[],[],[],[],[],[],[],[],[],[],[],[],[],[12],[],[12,14]] [0,1,2,3,4,5,6,7,8,9,10,11,12,13,14,15] [ar k (aL (⟨⟨d,xa,xg,xl⟩,xy⟩:aP)) 141,fz d,fz xa] [(14,kR Tryz.prog 110)] (by kernel_rfl) (fun _ hw=>ah.mem hw) (by kernel_rfl) (by kernel_rfl) ?_
    refine al rfl (aD rfl) ?_
    refine al rfl (aD rfl) ?_
    refine al rfl (jG rfl) ?_
    refine al rfl (aH (o':=0) rfl rfl) ?_
    refine al rfl (aH (o':=7) rfl rfl) ?_
    refine al rfl (Ry.to (v':= .int .u64 (xg.toNat:Nat)) (bH rfl) rfl) ?_
    refine al rfl (Ry.to (v':= .int .u64 ((xg+1).toNat:Int)) (yo (p:=xg.toNat) (q:=1) rfl rfl rfl rfl (by simp only[nb];omega)) (by rw[rG])) ?_
    refine al rfl (aD rfl) ?_
    refine al rfl (jG rfl) ?_
    refine al rfl (aH (o':=0) rfl rfl) ?_
    refine al rfl (Ry.to (v':= .agg (bF (⟨d,xa,xg,xl⟩:bM))) (iA rfl) rfl) ?_
    refine al rfl (aD rfl) ?_
    refine sd (hc:=Ms (v:=(⟨d,xa,xg,xl⟩:bM)) (id:=((i:Nat):Int))) (Et:=fun e_=>Ms (v:=(⟨d,xa,xg,xl⟩:bM)) (id:=((i:Nat):Int))) rfl rfl ⟨bt,n,by rw[Int.toNat_natCast];exact tL,by omega,CJ.1,CJ.2.1,CJ.2.2.1,CJ.2.2.2⟩ (fun e x w hw=>ah.mem hw) (Cert.one (i:=14) rfl rfl rfl jX (Cert.none rfl)) fun zK ahM=>⟨fun _ hw=>ah.mem hw,?_⟩
    refine al rfl (cR (v:= .agg (cG (⟨1,((i:Nat):Int),xg+1,⟨zK,(iC (cv d) (xa.xs.getD ((i:Nat):Int).toNat 0))⟩⟩:eo))) rfl (WN ((i:Nat):Int) (xg+1) zK _)) ?_
    refine oy (m:=kR Tryz.prog 110) rfl rfl jX (Cert.none rfl) fun zL=> ?_
    change Ln _ _ _ _ _ _ _ _ (cw _ _ (.pointer (some ⟨zL,0,none⟩))) (ar zL (cG m9) 110::_) _
    refine dE rfl (ox rfl rfl ⟨fun _ hw=>ah.mem hw,?_⟩)
    iterate 3 refine Gi ?_
    have lr:(c8 (cD (⟨1,((i:Nat):Int),xg+1,⟨zK,(iC (cv d) (xa.xs.getD ((i:Nat):Int).toNat 0))⟩⟩:eo)) d.size)=(dJ (cv d) ((xg.toNat:Int)+1) i n):=by
     have e1:xa.xs.getD ((i:Nat):Int).toNat 0=n:=by rw[Int.toNat_natCast];exact nL tL
     rw[dJ,e1]
     simp only[cD,rG]
     congr 2
    refine jn [7] [[],[],[],[],[],[],[],[],[7],[7],[7],[7],[7]] [0,1,2,3,4,5,6,7,8,9,10,11,12] [ar k (aL (⟨⟨d,xa,xg,xl⟩,xy⟩:aP)) 141,fz d,ar zL (cG (⟨1,((i:Nat):Int),xg+1,⟨zK,(iC (cv d) (xa.xs.getD ((i:Nat):Int).toNat 0))⟩⟩:eo)) 110] (fun _ hw=>ah.mem hw) (by kernel_rfl) (by kernel_rfl) ?_
    refine al rfl (fI rfl) ?_
    refine al rfl (aD rfl) ?_
    refine al rfl (jG rfl) ?_
    refine al rfl (aH (o':=0) rfl rfl) ?_
    refine al rfl (aH (o':=0) rfl rfl) ?_
    refine al rfl (aH (o':=1) rfl rfl) ?_
    refine al rfl (Ry.to (v':= .int .i64 d.size) (bH rfl) rfl) ?_
    refine dE rfl (nG rfl trivial fun WT ahN=>⟨fun _ hw=>ah.mem hw,?_⟩)
    refine al rfl (aD rfl) ?_
    refine al rfl (aV (v:=WT.val) rfl rfl) ?_
    refine al rfl (aV (v:= .int .i64 ((c8 (cD (⟨1,((i:Nat):Int),xg+1,⟨zK,(iC (cv d) (xa.xs.getD ((i:Nat):Int).toNat 0))⟩⟩:eo)) d.size).2)) rfl rfl) ?_
    refine al rfl (bl rfl) ?_
    refine al rfl (bl rfl) ?_
    refine Gc ?_
    iterate 2 refine Gs ?_
    refine Gc ?_
    refine au rfl (fun h4=> ?_) (fun h4=> ?_)
    ·
     replace h4:=bz h4
     have jg:(dJ (cv d) ((xg.toNat:Int)+1) i n).2≠0:=by rw[←lr];exact h4
     have hE:=Fo (x:=(⟨⟨cv xc,xa.xs,xg.toNat,xl⟩,xy⟩:WV)) (src:=f) (to:=t) (show bV _ _ _ _ _ _ _=_ from(aF.trans (bA.trans ((if_neg ez).trans ((if_neg (by rw[sG];simp)).trans (if_pos jg))))))
     refine Gc ?_
     iterate 3 refine Gs ?_
     refine Gc ?_
     refine aq (.inl rfl) (bm rfl (ak rfl) (ak rfl)) (fun w1 hw=> ?_)
     exact⟨(d,xa,xg,xl),by rw[hE,lr],by rw[hE];rfl,ah.mem hw⟩
    ·
     replace h4:=bz h4
     have jg:(dJ (cv d) ((xg.toNat:Int)+1) i n).2=0:=by rw[←lr];exact h4
     refine Gc ?_
     iterate 5 refine Gs ?_
     refine ag (Ry.to (v':=d.blocks.sv.val) (bH rfl) rfl) ?_
     refine Gs ?_
     refine ag (bg rfl rfl ((cf (cv d) xa.xs zs f t).1.toNat) (by omega) (by omega)) ?_
     refine ag (aH rfl rfl) ?_
     refine ag (bL (j:=1) rfl ((cf (cv d) xa.xs zs f t).1.toNat) hB rfl (by decide)) ?_
     refine Gs ?_
     refine Gc ?_
     iterate 3 refine Gs ?_
     refine bq rfl ⟨bt,by omega,by omega⟩ fun ME zM=> ?_
     rw[lr]at zM
     refine Gs ?_
     refine Gc ?_
     iterate 2 refine Gs ?_
     refine Gc ?_
     refine au rfl (fun h5=> ?_) (fun h5=> ?_)
     ·
      replace h5:=bz h5
      have np:(bC (cv d) (cf (cv d) xa.xs zs f t).1 (dJ (cv d) ((xg.toNat:Int)+1) i n).1)≠0:=by rw[←lr];exact h5
      have hE:=Fo (x:=(⟨⟨cv xc,xa.xs,xg.toNat,xl⟩,xy⟩:WV)) (src:=f) (to:=t) (show bV _ _ _ _ _ _ _=_ from(aF.trans (bA.trans ((if_neg ez).trans ((if_neg (by rw[sG];simp)).trans ((if_neg (fun h=>h jg)).trans (if_pos np)))))))
      refine Gc ?_
      iterate 4 refine Gs ?_
      refine Gc ?_
      refine aq (.inl rfl) (bm rfl (ak rfl) (ak rfl)) (fun w1 hw=> ?_)
      exact⟨(ME,xa,xg,xl),by rw[hE,lr],by rw[hE,zM];rfl,ah.mem hw⟩
     ·
      replace h5:=bz h5
      have np:(bC (cv d) (cf (cv d) xa.xs zs f t).1 (dJ (cv d) ((xg.toNat:Int)+1) i n).1)=0:=by rw[←lr];exact h5
      have fw:=iW.1 (nM np).1
      rw[oP,show(cv d).pages=xc.pages from zJ]at fw
      have xF:((cf (cv d) xa.xs zs f t).1*xc.pages+B.used+1)=0∨(1≤((cf (cv d) xa.xs zs f t).1*xc.pages+B.used+1)∧2≤(((cf (cv d) xa.xs zs f t).1*xc.pages+B.used+1) -1)/(cv xc).pages∧(((cf (cv d) xa.xs zs f t).1*xc.pages+B.used+1) -1)/(cv xc).pages<((cv xc).blocks.length:Int)):=by
       have hq:(((cf (cv d) xa.xs zs f t).1*xc.pages+B.used+1) -1)/xc.pages=(cf (cv d) xa.xs zs f t).1:=by
        rw[Int.add_sub_cancel,Int.add_comm,Int.add_mul_ediv_right _ _ (by omega),Int.ediv_eq_zero_of_lt fw.2.1 fw.2.2.1,Int.zero_add]
       exact .inr ⟨by omega,by rw[show(cv xc).pages=xc.pages from rfl,hq];exact tV,by rw[show(cv xc).pages=xc.pages from rfl,hq];omega⟩
      refine Gc ?_
      iterate 4 refine Gs ?_
      refine ag (ur rfl rfl (by omega)) ?_
      iterate 3 refine Gs ?_
      refine ag (bg rfl rfl i rfl (by omega)) ?_
      refine kO (s:=az) (n:=1) (k:=i) (j:=0) (a:=zi) (a':=((cf (cv d) xa.xs zs f t).1*xc.pages+B.used+1)) (xs:=zs) (enc:=bG) (c:=1) (v:= .int .i64 ((cf (cv d) xa.xs zs f t).1*xc.pages+B.used+1)) (by kernel_rfl) rfl rfl rfl nP (by simp[Value.cells,Value.oneCell']) rfl (by decide) (by rfl) ?_
      refine Gc ?_
      iterate 2 refine Gs ?_
      refine Gi ?_
      exact bx (x:=(i,d,zs)) (i+1,ME,zs.set i ((cf (cv d) xa.xs zs f t).1*xc.pages+B.used+1)) ⟨by simp only;omega,by rw[aF,bA,if_neg ez,if_neg (by rw[sG];simp),if_neg (fun h=>h jg),if_neg (fun h=>h np),zM,oP],by rw[zM];exact kz bt _ _,by rw[zM];exact cS.trans (gU _ _ _),by rw[List.length_set];exact zI,fun y hy=>(List.mem_or_eq_of_mem_set hy).elim (CH y) fun hy=>hy▸xF⟩ (by simp only;omega) (Sub.cons rfl (Sub.cons rfl (Sub.cons rfl (Sub.cons rfl (Sub.cons rfl (Sub.cons rfl (Sub.cons rfl (Sub.cons rfl (Sub.nil _))))))))) (fun w hw=>ah.mem hw)
 ·
  replace h0:=bz h0
  obtain rfl:i=xa.xs.length:=by omega
  have sH:(bV (⟨cv xc,xa.xs,xg.toNat,xl⟩:VV) f t xa.xs 0 (cv xc) xa.xs)=⟨cv d,zs,none⟩:=by rw[aF,List.drop_length];rfl
  have hE:=Tc (x:=(⟨⟨cv xc,xa.xs,xg.toNat,xl⟩,xy⟩:WV)) (src:=f) (to:=t) sH
  have GJ:cO (⟨⟨cv d,xa.xs,xg.toNat,xl⟩,xy⟩:WV):=gm.on bt cS
  refine Gc ?_
  iterate 2 refine Gs ?_
  refine bq rfl GJ fun CL WU=> ?_
  refine Gs ?_
  refine Gc ?_
  iterate 5 refine Gs ?_
  refine Gc ?_
  refine aq (.inl rfl) (bm rfl (ak rfl) (ak rfl)) (fun w1 hw=> ?_)
  exact⟨(CL.1,CL.2.1,CL.2.2.1,CL.2.2.2),by rw[hE];rfl,by rw[hE];exact WU,ah.mem hw⟩
instance ahO{w0:World}{L R1 R2 L2:List ai}{i0 i1 i2:Nat}{k:Nat}{xc:Cp}{xa:Sl Int}{xg:UInt64}{xl:Int}{xy:Bool}{f:Int}{t:Int}[q0:Has L k (aL (⟨⟨xc,xa,xg,xl⟩,xy⟩:aP)) 141 i0][d0:dq L i0 R1][q1:At R1 (fz xc) i1][d1:dq R1 i1 R2][q2:At R2 (fz xa) i2][d2:dq R2 i2 L2]:cl Tryz.prog 183 w0 L [.pointer (some ⟨k,0,none⟩), .int .i64 f, .int .i64 t] (Cp×Sl Int×UInt64×Int) (fun zz=> .tuple #[.bool ((cU (⟨⟨cv xc,xa.xs,xg.toNat,xl⟩,xy⟩:WV) f t).2.1), .int .i64 ((cU (⟨⟨cv xc,xa.xs,xg.toNat,xl⟩,xy⟩:WV) f t).2.2)]) (fun zz=>ar k (aL (⟨⟨zz.1,zz.2.1,zz.2.2.1,zz.2.2.2⟩,xy⟩:aP)) 141::fz zz.1::fz zz.2.1::L2) (fun zz=>(⟨⟨cv zz.1,zz.2.1.xs,zz.2.2.1.toNat,zz.2.2.2⟩,xy⟩:WV)=(cU (⟨⟨cv xc,xa.xs,xg.toNat,xl⟩,xy⟩:WV) f t).1) (cO (⟨⟨cv xc,xa.xs,xg.toNat,xl⟩,xy⟩:WV)∧2≤f∧f<(cv xc).blocks.length∧(0≤t→2≤t∧t<(cv xc).blocks.length)):=⟨fun hp w hw=>WO w0 w L2 k xc xa xg xl xy f t (xm q0.h d0.h q1.h d1.h q2.h d2.h hw) hp⟩
open Go.aC Go.Kb
open Go.RowKit
theorem WW(w:World)(xb:Nat)(xc:Cp)(xa:Sl Int)(xg:UInt64)(xl:Int)(xy:Bool)(l:Sv)(ls:List ax)(dL:w.heap[xb]? =Option.some (.cells (aL (⟨⟨xc,xa,xg,xl⟩,xy⟩:aP)) 141 (0,0)))(dU:Deep.aY (hp w) xc)(hl:bQ br 4 (hp w) l ls)(bb:ls.length≤1000000∧ ∀x∈ls,0≤x.live∧x.live≤1000000∧0≤x.used∧x.used≤1000000):Calls Tryz.prog 166 #[.pointer (some ⟨xb,0,none⟩),l.val] w fun e w'=>e= .returned (.tuple #[.int .i64 ((gy ls xc.pages).1), .bool ((gy ls xc.pages).2)])∧Mem w [] w':=by
 have sB:pF w xb (aL (⟨⟨xc,xa,xg,xl⟩,xy⟩:aP)) 141:=⟨dL⟩
 have sC:cg w xc:=⟨dU⟩
 have oM:Gv w l br 4 ls:=⟨hl⟩
 obtain⟨kG,iK⟩:=bb
 have oE:cI=1099511627776:=rfl
 refine ba (args:=[_,_]) Tryz.func166 rfl Tryz.ntmps166 rfl ?_
 change Cw _ _ _ _ _ [(0, .pointer (some ⟨xb,0,none⟩)),(1,l.val)] []
 refine Gc ?_
 iterate 2 refine Gs ?_
 refine Gc ?_
 iterate 6 refine Gs ?_
 refine ag (Ry.to (v':= .int .i64 xc.pages) (mF rfl) rfl) ?_
 iterate 2 refine Gs ?_
 refine ag (aV (v:= .int .i64 ((qi ls xc.pages).1)) rfl rfl) ?_
 refine ag (aV (v:= .bool ((qi ls xc.pages).2)) rfl rfl) ?_
 iterate 2 refine Gs ?_
 refine Gc ?_
 refine Gs ?_
 refine Gc ?_
 refine au rfl (fun h0=> ?_) (fun h0=> ?_)
 ·
  replace h0:=bz h0
  have hE:gy ls xc.pages=((qi ls xc.pages).1,true):=by rw[gy,if_pos h0]
  refine Gc ?_
  iterate 3 refine Gs ?_
  refine Gc ?_
  refine aq (.inl rfl) (bm rfl (ak rfl) (ak rfl)) (fun w1 hw=> ?_)
  exact⟨by rw[hE],ah.mem hw⟩
 ·
  replace h0:=bz h0
  have hE:gy ls xc.pages=((fN ls ls.length).1,decide (0<(fN ls ls.length).2)):=by rw[gy,if_neg (by rw[h0];simp)]
  refine Gc ?_
  iterate 2 refine Gs ?_
  refine Gc ?_
  iterate 3 refine Gs ?_
  refine Gc ?_
  refine ca (X:=Nat) (fun zz=>[(28, .int .i64 (zz:Nat)),(8, .int .i64 ((fN ls zz).1)),(9, .int .i64 ((fN ls zz).2)),(26,l.val),(27, .int .i64 (ls.length:Nat))]) (fun zz=>[]) (fun zz=>zz≤ls.length) (fun zz=>ls.length -zz) 0 (Nat.zero_le _) (Sub.cons rfl (Sub.cons rfl (Sub.cons rfl (Sub.cons rfl (Sub.cons rfl (Sub.nil _)))))) (fun w hw=>ah.mem hw) ?_
  rintro i bh
  refine Gc ?_
  refine Gs ?_
  refine Gc ?_
  refine au rfl (fun h1=> ?_) (fun h1=> ?_)
  ·
   replace h1:=bz h1
   obtain⟨z,hz⟩:=get_some (xs:=ls) (i:=i) (by omega)
   have vp:ls.getD i dH=z:=by simp[List.getD,hz]
   have hzb:=iK z (List.mem_of_getElem? hz)
   have xp:=Fk ls i
   have eM:(fN ls (i+1))=tw (fN ls i) i z:=by rw[fN,vp]
   refine Gc ?_
   refine Gs ?_
   refine ag (bg rfl rfl i rfl (by omega)) ?_
   refine ag (gG rfl i hz rfl) ?_
   refine bK fun jf=> ?_
   iterate 2 refine Gs ?_
   refine Gc ?_
   iterate 3 refine Gs ?_
   iterate 3 refine Gg ?_
   iterate 2 refine Gs ?_
   iterate 3 refine Gg ?_
   refine Gs ?_
   refine Gc ?_
   refine au rfl (fun h2=> ?_) (fun h2=> ?_)
   ·
    replace h2:=bz h2
    have bA:(fN ls (i+1))=(fN ls i):=by rw[eM,tw,if_pos (h2.elim (fun h=>h.elim (fun h=> .inl h) fun h=> .inr (.inl h)) fun h=> .inr (.inr (by omega)))]
    refine Gc ?_
    iterate 2 refine Gs ?_
    refine Gi ?_
    exact bx (x:=(i)) (i+1) (by first|omega|(simp only[];omega)) (by first|omega|(simp only[];omega)) (Sub.cons rfl (Sub.cons (look_eq rfl (by rw[bA])) (Sub.cons (look_eq rfl (by rw[bA])) (Sub.cons rfl (Sub.cons rfl (Sub.nil _)))))) (fun w hw=>ah.mem hw)
   ·
    replace h2:=bz h2
    have fa: ¬(z.bad=true∨z.live=0∨cI≤z.aS):=fun g=>g.elim (fun g=>absurd (h2.1.1.symm.trans g) (by simp)) (fun g=>g.elim h2.1.2 (fun g=>h2.2 (by omega)))
    refine Gc ?_
    iterate 6 refine Gs ?_
    refine Gc ?_
    iterate 3 refine Gs ?_
    refine Gc ?_
    refine au rfl (fun h3=> ?_) (fun h3=> ?_)
    ·
     replace h3:=bz h3
     have bA:(fN ls (i+1))=((i:Int),z.used -z.live):=by rw[eM,tw,if_neg fa,if_pos h3]
     refine Gi ?_
     iterate 4 refine Gs ?_
     refine Gc ?_
     iterate 2 refine Gs ?_
     refine Gi ?_
     exact bx (x:=(i)) (i+1) (by first|omega|(simp only[];omega)) (by first|omega|(simp only[];omega)) (Sub.cons rfl (Sub.cons (look_eq rfl (by rw[bA])) (Sub.cons (look_eq rfl (by rw[bA])) (Sub.cons rfl (Sub.cons rfl (Sub.nil _)))))) (fun w hw=>ah.mem hw)
    ·
     replace h3:=bz h3
     have bA:(fN ls (i+1))=(fN ls i):=by rw[eM,tw,if_neg fa,if_neg h3]
     refine Gc ?_
     iterate 2 refine Gs ?_
     refine Gi ?_
     exact bx (x:=(i)) (i+1) (by first|omega|(simp only[];omega)) (by first|omega|(simp only[];omega)) (Sub.cons rfl (Sub.cons (look_eq rfl (by rw[bA])) (Sub.cons (look_eq rfl (by rw[bA])) (Sub.cons rfl (Sub.cons rfl (Sub.nil _)))))) (fun w hw=>ah.mem hw)
  ·
   replace h1:=bz h1
   obtain rfl:i=ls.length:=by omega
   refine Gc ?_
   iterate 5 refine Gs ?_
   refine Gc ?_
   refine aq (.inl rfl) (bm rfl (ak rfl) (ak rfl)) (fun w1 hw=> ?_)
   exact⟨by rw[hE],ah.mem hw⟩
instance ahP{w0:World}{L:List ai}{xb:Nat}{xc:Cp}{xa:Sl Int}{xg:UInt64}{xl:Int}{xy:Bool}{l:Sv}{ls:List ax}[dL:lz w0 L xb (aL (⟨⟨xc,xa,xg,xl⟩,xy⟩:aP)) 141][dU:aU w0 L xc][hl:c0 w0 L br 4 l ls]:cB Tryz.prog 166 w0 L [.pointer (some ⟨xb,0,none⟩),l.val] (.tuple #[.int .i64 ((gy ls xc.pages).1), .bool ((gy ls xc.pages).2)]) (ls.length≤1000000∧ ∀x∈ls,0≤x.live∧x.live≤1000000∧0≤x.used∧x.used≤1000000):=⟨fun hp w hw=>WW w xb xc xa xg xl xy l ls (dL.h w hw) (dU.h w hw) (hl.h w hw) hp⟩
theorem WX(w:World)(x:ax):Calls Tryz.prog 192 #[.agg (br x)] w fun e w'=>e= .returned (.bool (px x))∧Mem w [] w':=by
 refine ba (args:=[_]) Tryz.func192 rfl Tryz.ntmps192 rfl ?_
 change Cw _ _ _ _ _ [(0, .agg (br x))] []
 refine Gc ?_
 refine bX rfl fun b1=> ?_
 refine Gs ?_
 refine Gc ?_
 iterate 4 refine Gs ?_
 refine Gc ?_
 refine aq (.inl rfl) (aI rfl (ak rfl)) (fun w1 hw=> ?_)
 exact⟨congrArg (fun b=>Ending.returned (Value.bool b)) (rfl),ah.mem hw⟩
instance {w0:World}{L:List ai}:qy Tryz.prog w0 L 192 #[] br px:=⟨inferInstance,fun w _ x=>WX w x⟩
theorem WY(w:World)(x:ax):Calls Tryz.prog 194 #[.agg (br x)] w fun e w'=>e= .returned (.bool (qq x))∧Mem w [] w':=by
 refine ba (args:=[_]) Tryz.func194 rfl Tryz.ntmps194 rfl ?_
 change Cw _ _ _ _ _ [(0, .agg (br x))] []
 refine Gc ?_
 refine bX rfl fun b1=> ?_
 refine Gs ?_
 refine Gc ?_
 iterate 4 refine Gs ?_
 refine Gc ?_
 refine aq (.inl rfl) (aI rfl (ak rfl)) (fun w1 hw=> ?_)
 exact⟨congrArg (fun b=>Ending.returned (Value.bool b)) (rfl),ah.mem hw⟩
instance {w0:World}{L:List ai}:qy Tryz.prog w0 L 194 #[] br qq:=⟨inferInstance,fun w _ x=>WY w x⟩
theorem WZ(w:World)(cb:Nat)(cp:Int)(oI:w.cell? ⟨cb,0,none⟩=Option.some (.int .i64 cp))(x:ax):Calls Tryz.prog 193 #[.agg (br x), .pointer (some ⟨cb,0,none⟩)] w fun e w'=>e= .returned (.bool (qp cp x))∧Mem w [] w':=by
 refine ba (args:=[_,_]) Tryz.func193 rfl Tryz.ntmps193 rfl ?_
 change Cw _ _ _ _ _ [(0, .agg (br x)),(1, .pointer (some ⟨cb,0,none⟩))] []
 refine Gc ?_
 refine bX rfl fun b2=> ?_
 refine Gs ?_
 refine Gc ?_
 iterate 2 refine Gs ?_
 refine ag (L3 rfl oI) ?_
 iterate 2 refine Gs ?_
 refine Gc ?_
 refine aq (.inl rfl) (aI rfl (ak rfl)) (fun w1 hw=> ?_)
 exact⟨congrArg (fun b=>Ending.returned (Value.bool b)) (rfl),ah.mem hw⟩
instance {w0:World}{L:List ai}{cb i:Nat}{cp:Int}{T:TypeId}[q:Has L cb #[.int .i64 cp] T i]:qy Tryz.prog w0 L 193 #[.pointer (some ⟨cb,0,none⟩)] br (qp cp):=⟨inferInstance,fun w hw x=>WZ w cb cp (by rw[hw.cell q.h];rfl) x⟩
theorem W0(w0 w:World)(L:List ai)(k:Nat)(xc:Cp)(xa:Sl Int)(xg:UInt64)(xl:Int)(xy:Bool)(l:Sv)(ls:List ax)[hl:Hd w0 L l br 4 ls](hw:Mem w0 (ar k (aL (⟨⟨xc,xa,xg,xl⟩,xy⟩:aP)) 141::fz xc::L) w)(bb:aT (cv xc)=true∧kb (cv xc) ls):Calls Tryz.prog 181 #[.pointer (some ⟨k,0,none⟩),l.val] w fun e w'=> ∃zz:Cp,e= .returned (.tuple #[.int .i64 ((bT (cv xc) ls).2.1), .int .i64 ((bT (cv xc) ls).2.2)])∧(cv zz=(bT (cv xc) ls).1)∧Mem w0 (ar k (aL (⟨⟨zz,xa,xg,xl⟩,xy⟩:aP)) 141::fz zz::L) w':=by
 have hk:=bb.1
 have iO:=bb.2.1
 have hd:=eF hk
 refine kl (args:=[_,_]) Tryz.func181 rfl Tryz.ntmps181 rfl hw ?_
 change Cw _ _ _ _ _ [(0, .pointer (some ⟨k,0,none⟩)),(1,l.val)] (ar k (aL (⟨⟨xc,xa,xg,xl⟩,xy⟩:aP)) 141::fz xc::L)
 refine Gc ?_
 iterate 2 refine Gs ?_
 refine Gc ?_
 iterate 5 refine Gs ?_
 refine ag (Ry.to (v':= .int .i64 xc.pages) (bH rfl) rfl) ?_
 refine Ui (z:= .int .i64 0) rfl fun b6=> ?_
 refine Uj (by first|rfl|exact Sv.one _) rfl rfl ?_
 refine Gc ?_
 refine Gs ?_
 refine bq rfl (by omega) fun mA Cu=> ?_
 refine Gs ?_
 refine Gc ?_
 iterate 4 refine Gs ?_
 refine ag (aV (v:= .int .i64 ((eE (bR px ls) xc.pages).1)) rfl rfl) ?_
 refine ag (aV (v:= .bool ((eE (bR px ls) xc.pages).2)) rfl rfl) ?_
 iterate 2 refine Gs ?_
 refine Gc ?_
 refine Gs ?_
 refine Gc ?_
 refine au rfl (fun h0=> ?_) (fun h0=> ?_)
 ·
  replace h0:=bz h0
  have nW:(kY (cv xc) ls).2=true:=h0
  have hE:(bT (cv xc) ls)=(cv xc,(kY (cv xc) ls).1+2,0):=by rw[bT,if_pos nW]
  have nj:=tA bb.2 (fun x h=>(qk h).1) nW
  change 0≤(eE (bR px ls) xc.pages).1∧(eE (bR px ls) xc.pages).1<_∧_ at nj
  refine Gc ?_
  iterate 4 refine Gs ?_
  refine Gc ?_
  refine aq (.inl rfl) (bm rfl (ak rfl) (ak rfl)) (fun w1 hw=> ?_)
  exact⟨xc,by rw[hE];rfl,by rw[hE],ah.mem hw⟩
 ·
  replace h0:=bz h0
  have nW: ¬(kY (cv xc) ls).2=true:=fun h=>by rw[show(kY (cv xc) ls).2=false from h0]at h;cases h
  refine Gc ?_
  refine Gs ?_
  refine ag (F0 rfl) ?_
  refine bq rfl (by omega) fun k8 CM=> ?_
  refine Gs ?_
  refine Gc ?_
  iterate 4 refine Gs ?_
  refine ag (aV (v:= .int .i64 ((eK (bR (qp xc.pages) ls) xc.pages).1)) rfl rfl) ?_
  refine ag (aV (v:= .bool ((eK (bR (qp xc.pages) ls) xc.pages).2)) rfl rfl) ?_
  iterate 2 refine Gs ?_
  refine Gc ?_
  refine Gs ?_
  refine Gc ?_
  refine au rfl (fun h1=> ?_) (fun h1=> ?_)
  ·
   replace h1:=bz h1
   have ez:(ja (cv xc) ls).2=true:=h1
   have hE:(bT (cv xc) ls)=((cy (cv xc) ((ja (cv xc) ls).1+2)).1,(ja (cv xc) ls).1+2,(cy (cv xc) ((ja (cv xc) ls).1+2)).2):=by rw[bT,if_neg nW,if_pos ez]
   have nj:=tA bb.2 (fun x h=>(kB h).1) ez
   change 0≤(eK (bR (qp xc.pages) ls) xc.pages).1∧(eK (bR (qp xc.pages) ls) xc.pages).1<_∧_ at nj
   refine Gc ?_
   iterate 5 refine Gs ?_
   refine bq rfl ⟨hk,by omega,by omega⟩ fun tW MF=> ?_
   iterate 2 refine Gs ?_
   refine Gc ?_
   refine aq (.inl rfl) (bm rfl (ak rfl) (ak rfl)) (fun w1 hw=> ?_)
   exact⟨tW,by rw[hE];rfl,by rw[MF,hE];rfl,ah.mem hw⟩
  ·
   replace h1:=bz h1
   have ez: ¬(ja (cv xc) ls).2=true:=fun h=>by rw[show(ja (cv xc) ls).2=false from h1]at h;cases h
   refine Gc ?_
   refine Gs ?_
   refine bq rfl (by omega) fun nT vk=> ?_
   refine Gs ?_
   refine Gc ?_
   iterate 4 refine Gs ?_
   refine ag (aV (v:= .int .i64 ((eK (bR qq ls) xc.pages).1)) rfl rfl) ?_
   refine ag (aV (v:= .bool ((eK (bR qq ls) xc.pages).2)) rfl rfl) ?_
   iterate 2 refine Gs ?_
   refine Gc ?_
   refine Gs ?_
   refine Gc ?_
   refine au rfl (fun h2=> ?_) (fun h2=> ?_)
   ·
    replace h2:=bz h2
    have fa:(jb (cv xc) ls).2=true:=h2
    have hE:(bT (cv xc) ls)=((cy (cv xc) ((jb (cv xc) ls).1+2)).1,(jb (cv xc) ls).1+2,(cy (cv xc) ((jb (cv xc) ls).1+2)).2):=by rw[bT,if_neg nW,if_neg ez,if_pos fa]
    have nj:=tA bb.2 (fun x h=>(kB h).1) fa
    change 0≤(eK (bR qq ls) xc.pages).1∧(eK (bR qq ls) xc.pages).1<_∧_ at nj
    refine Gc ?_
    iterate 5 refine Gs ?_
    refine bq rfl ⟨hk,by omega,by omega⟩ fun W1 W2=> ?_
    iterate 2 refine Gs ?_
    refine Gc ?_
    refine aq (.inl rfl) (bm rfl (ak rfl) (ak rfl)) (fun w1 hw=> ?_)
    exact⟨W1,by rw[hE];rfl,by rw[W2,hE];rfl,ah.mem hw⟩
   ·
    replace h2:=bz h2
    have fa: ¬(jb (cv xc) ls).2=true:=fun h=>by rw[show(jb (cv xc) ls).2=false from h2]at h;cases h
    refine Gc ?_
    iterate 2 refine Gs ?_
    refine Gc ?_
    refine aq (.inl rfl) (bm rfl (ak rfl) (ak rfl)) (fun w1 hw=> ?_)
    exact⟨xc,by rw[bT,if_neg nW,if_neg ez,if_neg fa],by rw[bT,if_neg nW,if_neg ez,if_neg fa],ah.mem hw⟩
instance ahQ{w0:World}{L R1 L2:List ai}{i0 i1:Nat}{k:Nat}{xc:Cp}{xa:Sl Int}{xg:UInt64}{xl:Int}{xy:Bool}{l:Sv}{ls:List ax}[q0:Has L k (aL (⟨⟨xc,xa,xg,xl⟩,xy⟩:aP)) 141 i0][d0:dq L i0 R1][q1:At R1 (fz xc) i1][d1:dq R1 i1 L2][hl:Hd w0 L2 l br 4 ls]:cl Tryz.prog 181 w0 L [.pointer (some ⟨k,0,none⟩),l.val] (Cp) (fun zz=> .tuple #[.int .i64 ((bT (cv xc) ls).2.1), .int .i64 ((bT (cv xc) ls).2.2)]) (fun zz=>ar k (aL (⟨⟨zz,xa,xg,xl⟩,xy⟩:aP)) 141::fz zz::L2) (fun zz=>cv zz=(bT (cv xc) ls).1) (aT (cv xc)=true∧kb (cv xc) ls):=⟨fun hp w hw=>W0 w0 w L2 k xc xa xg xl xy l ls (sr q0.h d0.h q1.h d1.h hw) hp⟩
open Go.aC Go.Kb
open Go.RowKit
theorem W3(w0 w:World)(L:List ai)(k:Nat)(xc:Cp)(xa:Sl Int)(xg:UInt64)(xl:Int)(xy:Bool)(l:Sv)(ls:List ax)(i:Int)[hl:Hd w0 L l br 4 ls](hw:Mem w0 (ar k (aL (⟨⟨xc,xa,xg,xl⟩,xy⟩:aP)) 141::fz xc::fz xa::L) w)(bb:cO (⟨⟨cv xc,xa.xs,xg.toNat,xl⟩,xy⟩:WV)∧kb (cv xc) ls∧0≤i∧i<ls.length):Calls Tryz.prog 168 #[.pointer (some ⟨k,0,none⟩),l.val, .int .i64 i] w fun e w'=> ∃zz:Cp×Sl Int×UInt64×Int,e= .returned (.int .i64 ((eZ (⟨⟨cv xc,xa.xs,xg.toNat,xl⟩,xy⟩:WV) ls i).2))∧((⟨⟨cv zz.1,zz.2.1.xs,zz.2.2.1.toNat,zz.2.2.2⟩,xy⟩:WV)=(eZ (⟨⟨cv xc,xa.xs,xg.toNat,xl⟩,xy⟩:WV) ls i).1)∧Mem w0 (ar k (aL (⟨⟨zz.1,zz.2.1,zz.2.2.1,zz.2.2.2⟩,xy⟩:aP)) 141::fz zz.1::fz zz.2.1::L) w':=by
 obtain⟨gm,qA,ye,bh⟩:=bb
 have hk:aT (cv xc)=true:=gm.ae
 have xC:4≤(cv xc).blocks.length:=gm.qo
 have hd:=eF hk
 have iO:=qA.1
 obtain⟨z,hz⟩:=get_some (xs:=ls) (i:=i.toNat) (by omega)
 have vp:ls.getD i.toNat dH=z:=by simp[List.getD,hz]
 have xe:(ls.set i.toNat bj).length=ls.length:=List.length_set
 refine kl (args:=[_,_,_]) Tryz.func168 rfl Tryz.ntmps168 rfl hw ?_
 change Cw _ _ _ _ _ [(0, .pointer (some ⟨k,0,none⟩)),(1,l.val),(2, .int .i64 i)] (ar k (aL (⟨⟨xc,xa,xg,xl⟩,xy⟩:aP)) 141::fz xc::fz xa::L)
 refine Gc ?_
 refine Gs ?_
 refine Gc ?_
 refine Gs ?_
 refine bq rfl (by omega) fun pJ GK=> ?_
 refine Gs ?_
 refine Gc ?_
 iterate 2 refine Gs ?_
 refine ag (cR (v:= .agg (br bj)) rfl CF) ?_
 refine ag (bg rfl rfl i.toNat (by omega) (by omega)) ?_
 refine kO (s:=pJ) (n:=4) (k:=i.toNat) (j:=0) (a:=z) (a':=bj) (xs:=ls) (enc:=br) (c:=4) (v:= .agg (br bj)) (by kernel_rfl) rfl rfl rfl hz (bu.one (enc:=br) (c:=4) _) rfl (by decide) (by rfl) ?_
 refine Gc ?_
 iterate 2 refine Gs ?_
 refine bq rfl ⟨hk,qA.set i.toNat⟩ fun gK vg=> ?_
 obtain⟨t1,t2,t3,t4,t5,t6⟩:=Fm hk (qA.set i.toNat)
 rw[←vg]at t1 t2 t3 t4 t5 t6
 have oU:cO (⟨⟨cv gK,xa.xs,xg.toNat,xl⟩,xy⟩:WV):=gm.on t1 t2
 refine Gs ?_
 refine ag (aV (v:= .int .i64 ((bT (cv xc) (ls.set i.toNat bj)).2.1)) rfl rfl) ?_
 refine ag (aV (v:= .int .i64 ((bT (cv xc) (ls.set i.toNat bj)).2.2)) rfl rfl) ?_
 iterate 2 refine Gs ?_
 iterate 2 refine Gi ?_
 refine vV (X:=Unit) (fun zz=>[(8, .int .i64 ((cJ (cv xc) ls i).1)),(9, .int .i64 ((cJ (cv xc) ls i).2)),(0, .pointer (some ⟨k,0,none⟩)),(1,l.val),(2, .int .i64 i)]) (fun zz=>ar k (aL (⟨⟨gK,xa,xg,xl⟩,xy⟩:aP)) 141::fz gK::fz xa::L) (fun zz=>True) ?_ ?_
 ·
  refine Gi ?_
  refine gO (by kernel_rfl) (by kernel_rfl) ?_
  iterate 3 refine Gq ?_
  iterate 2 refine Gh ?_
  refine fC rfl rfl rfl (fun hg=>(Ry.yl (jG (aG hg rfl)))) ?_
  refine fC rfl rfl rfl (fun hg=>(Ry.yl (aH (o':=0) (aG hg rfl) rfl))) ?_
  refine fC rfl rfl rfl (fun hg=>(Ry.yl (aH (o':=0) (aG hg rfl) rfl))) ?_
  refine fC rfl rfl rfl (fun hg=>(Ry.yl (aH (o':=0) (aG hg rfl) rfl))) ?_
  refine fC rfl rfl rfl (fun hg=>(Ry.yl (Ry.to (v':= .int .i64 gK.pages) (bH (aG hg rfl)) rfl))) ?_
  refine fC rfl rfl rfl (fun hg=>cC (dA (aG hg rfl) (dA (aG hg rfl) gE)) trivial) ?_
  iterate 2 refine Gh ?_
  refine fC rfl rfl rfl (fun hg=>(Ry.yl (bg (aG hg rfl) (aG hg rfl) i.toNat (by omega) (by omega)))) ?_
  refine fC rfl rfl rfl (fun hg=>(Ry.yl (aH (aG hg rfl) rfl))) ?_
  refine fC rfl rfl rfl (fun hg=>(Ry.yl (bL (j:=0) (aG hg rfl) i.toNat hz rfl (by decide)))) ?_
  refine Gh ?_
  refine Gq ?_
  refine Gc ?_
  refine au rfl (fun h0=> ?_) (fun h0=> ?_)
  ·
   replace h0:=bz h0
   have hA:oF (cv xc) ls i=true:=by
    rw[oF,vp,Bool.and_eq_true,decide_eq_true_eq,decide_eq_true_eq,←show gK.pages=(cv xc).pages from t2.pages];exact h0
   refine Gi ?_
   iterate 2 refine Gs ?_
   refine Gi ?_
   exact oZ () trivial (Sub.cons (look_eq rfl (by rw[cJ,if_pos hA])) (Sub.cons (look_eq rfl (by rw[cJ,if_pos hA])) (Sub.cons rfl (Sub.cons rfl (Sub.cons rfl (Sub.nil _)))))) (fun w hw=>ah.mem hw)
  ·
   replace h0:=bz h0
   have hA: ¬oF (cv xc) ls i=true:=by
    rw[oF,vp,Bool.and_eq_true,decide_eq_true_eq,decide_eq_true_eq,←show gK.pages=(cv xc).pages from t2.pages]
    rintro⟨ga,gb⟩
    rcases h0 with h|h
    ·
     exact h ga
    ·
     exact h gb
   refine Gi ?_
   exact oZ () trivial (Sub.cons (look_eq rfl (by rw[cJ,if_neg hA])) (Sub.cons (look_eq rfl (by rw[cJ,if_neg hA])) (Sub.cons rfl (Sub.cons rfl (Sub.cons rfl (Sub.nil _)))))) (fun w hw=>ah.mem hw)
 ·
  rintro⟨⟩ _
  refine Gc ?_
  iterate 2 refine Gs ?_
  refine Gc ?_
  refine au rfl (fun h1=> ?_) (fun h1=> ?_)
  ·
   replace h1:=bz h1
   have hE:(eZ (⟨⟨cv xc,xa.xs,xg.toNat,xl⟩,xy⟩:WV) ls i)=(((⟨⟨cv xc,xa.xs,xg.toNat,xl⟩,xy⟩:WV).on (cv gK)),iZ (cJ (cv xc) ls i).2):=by rw[eZ,if_pos h1,show((⟨⟨cv xc,xa.xs,xg.toNat,xl⟩,xy⟩:WV)).v.ae=cv xc from rfl,←vg]
   refine Gc ?_
   iterate 3 refine Gs ?_
   refine Gc ?_
   refine aq (.inl rfl) (aI rfl (ak rfl)) (fun w1 hw=> ?_)
   exact⟨(gK,xa,xg,xl),by rw[hE],by rw[hE];rfl,ah.mem hw⟩
  ·
   replace h1:=bz h1
   have ez: ¬(cJ (cv xc) ls i).2≠0:=fun h=>h h1
   have bA:(eZ (⟨⟨cv xc,xa.xs,xg.toNat,xl⟩,xy⟩:WV) ls i)=(if(cU (⟨⟨cv gK,xa.xs,xg.toNat,xl⟩,xy⟩:WV) (i+2) (cJ (cv xc) ls i).1).2.1=false∨z.used=xc.pages then((cU (⟨⟨cv gK,xa.xs,xg.toNat,xl⟩,xy⟩:WV) (i+2) (cJ (cv xc) ls i).1).1,(cU (⟨⟨cv gK,xa.xs,xg.toNat,xl⟩,xy⟩:WV) (i+2) (cJ (cv xc) ls i).1).2.2)else((cU (⟨⟨cv gK,xa.xs,xg.toNat,xl⟩,xy⟩:WV) (i+2) (cJ (cv xc) ls i).1).1.on (cy (cU (⟨⟨cv gK,xa.xs,xg.toNat,xl⟩,xy⟩:WV) (i+2) (cJ (cv xc) ls i).1).1.v.ae (i+2)).1,iZ (cy (cU (⟨⟨cv gK,xa.xs,xg.toNat,xl⟩,xy⟩:WV) (i+2) (cJ (cv xc) ls i).1).1.v.ae (i+2)).2)):=by
    rw[eZ]
    refine(if_neg ez).trans ?_
    rw[vp,show((⟨⟨cv xc,xa.xs,xg.toNat,xl⟩,xy⟩:WV)).v.ae=cv xc from rfl,←vg];rfl
   refine Gc ?_
   iterate 4 refine Gs ?_
   refine bq rfl ⟨oU,by omega,by rw[t2.len];omega,fun h=>by rw[t2.len];have:=B4 (i:=i) hk qA h1 h;exact⟨this.1,this.2.1⟩⟩ fun nT vk=> ?_
   have hm:=Te (x:=(⟨⟨cv gK,xa.xs,xg.toNat,xl⟩,xy⟩:WV)) (src:=i+2) (to:=(cJ (cv xc) ls i).1) oU (fun h=>by
    have:=B4 (i:=i) hk qA h1 h
    exact⟨this.1,by rw[show((⟨⟨cv gK,xa.xs,xg.toNat,xl⟩,xy⟩:WV)).v.ae.blocks.length=(cv xc).blocks.length from t2.len];exact this.2.1,by rw[show((⟨⟨cv gK,xa.xs,xg.toNat,xl⟩,xy⟩:WV)).v.ae=(bT (cv xc) (ls.set i.toNat bj)).1 from vg];exact this.2.2⟩)
   rw[←vk]at hm
   obtain⟨W4,MG⟩:=hm
   have nV:nT.1.pages=xc.pages:=MG.pages.trans t2.pages
   refine Gs ?_
   refine ag (aV (v:= .bool ((cU (⟨⟨cv gK,xa.xs,xg.toNat,xl⟩,xy⟩:WV) (i+2) ((cJ (cv xc) ls i).1)).2.1)) rfl rfl) ?_
   refine ag (aV (v:= .int .i64 ((cU (⟨⟨cv gK,xa.xs,xg.toNat,xl⟩,xy⟩:WV) (i+2) ((cJ (cv xc) ls i).1)).2.2)) rfl rfl) ?_
   iterate 2 refine Gs ?_
   refine Gc ?_
   refine gO (by kernel_rfl) (by kernel_rfl) ?_
   iterate 3 refine Gq ?_
   iterate 2 refine Gh ?_
   refine iH rfl rfl rfl (fun hg=>(Ry.yl (bg (aG hg rfl) (aG hg rfl) i.toNat (by omega) (by omega)))) ?_
   refine iH rfl rfl rfl (fun hg=>(Ry.yl (aH (aG hg rfl) rfl))) ?_
   refine iH rfl rfl rfl (fun hg=>(Ry.yl (bL (j:=1) (aG hg rfl) i.toNat hz rfl (by decide)))) ?_
   refine Gh ?_
   refine iH rfl rfl rfl (fun hg=>(Ry.yl (jG (aG hg rfl)))) ?_
   refine iH rfl rfl rfl (fun hg=>(Ry.yl (aH (o':=0) (aG hg rfl) rfl))) ?_
   refine iH rfl rfl rfl (fun hg=>(Ry.yl (aH (o':=0) (aG hg rfl) rfl))) ?_
   refine iH rfl rfl rfl (fun hg=>(Ry.yl (aH (o':=0) (aG hg rfl) rfl))) ?_
   refine iH rfl rfl rfl (fun hg=>(Ry.yl (Ry.to (v':= .int .i64 nT.1.pages) (bH (aG hg rfl)) rfl))) ?_
   refine Gh ?_
   refine Gq ?_
   refine Gc ?_
   refine au rfl (fun h2=> ?_) (fun h2=> ?_)
   ·
    replace h2:=bz h2
    have hE:=bA
    rw[if_pos (by rw[←nV];exact h2),←vk]at hE
    refine Gc ?_
    iterate 2 refine Gs ?_
    refine Gc ?_
    refine aq (.inl rfl) (aI rfl (ak rfl)) (fun w1 hw=> ?_)
    exact⟨(nT.1,nT.2.1,nT.2.2.1,nT.2.2.2),by rw[hE],by rw[hE],ah.mem hw⟩
   ·
    replace h2:=bz h2
    have hE:=bA
    rw[if_neg (by rw[←nV];rintro(g|g)
                  ·exact absurd (h2.1.symm.trans g) (by simp)
                  ·exact h2.2 g),←vk]at hE
    refine Gc ?_
    iterate 3 refine Gs ?_
    refine bq rfl ⟨W4.ae,by omega,by rw[MG.len,t2.len];omega⟩ fun W5 W6=> ?_
    iterate 2 refine Gs ?_
    refine Gc ?_
    refine aq (.inl rfl) (aI rfl (ak rfl)) (fun w1 hw=> ?_)
    exact⟨(W5,nT.2.1,nT.2.2.1,nT.2.2.2),by rw[hE],by rw[hE,W6];rfl,ah.mem hw⟩
instance ahR{w0:World}{L R1 R2 L2:List ai}{i0 i1 i2:Nat}{k:Nat}{xc:Cp}{xa:Sl Int}{xg:UInt64}{xl:Int}{xy:Bool}{l:Sv}{ls:List ax}{i:Int}[q0:Has L k (aL (⟨⟨xc,xa,xg,xl⟩,xy⟩:aP)) 141 i0][d0:dq L i0 R1][q1:At R1 (fz xc) i1][d1:dq R1 i1 R2][q2:At R2 (fz xa) i2][d2:dq R2 i2 L2][hl:Hd w0 L2 l br 4 ls]:cl Tryz.prog 168 w0 L [.pointer (some ⟨k,0,none⟩),l.val, .int .i64 i] (Cp×Sl Int×UInt64×Int) (fun zz=> .int .i64 ((eZ (⟨⟨cv xc,xa.xs,xg.toNat,xl⟩,xy⟩:WV) ls i).2)) (fun zz=>ar k (aL (⟨⟨zz.1,zz.2.1,zz.2.2.1,zz.2.2.2⟩,xy⟩:aP)) 141::fz zz.1::fz zz.2.1::L2) (fun zz=>(⟨⟨cv zz.1,zz.2.1.xs,zz.2.2.1.toNat,zz.2.2.2⟩,xy⟩:WV)=(eZ (⟨⟨cv xc,xa.xs,xg.toNat,xl⟩,xy⟩:WV) ls i).1) (cO (⟨⟨cv xc,xa.xs,xg.toNat,xl⟩,xy⟩:WV)∧kb (cv xc) ls∧0≤i∧i<ls.length):=⟨fun hp w hw=>W3 w0 w L2 k xc xa xg xl xy l ls i (xm q0.h d0.h q1.h d1.h q2.h d2.h hw) hp⟩
theorem W7(w:World)(cb k:Nat)(xc:Cp)(xa:Sl Int)(xg:UInt64)(xl:Int)(xy:Bool)(oI:w.cell? ⟨cb,0,none⟩=Option.some (.pointer (some ⟨k,0,none⟩)))(rH:w.heap[k]? =Option.some (.cells (aL (⟨⟨xc,xa,xg,xl⟩,xy⟩:aP)) 141 (0,0)))(x:ax):Calls Tryz.prog 170 #[.agg (br x), .pointer (some ⟨cb,0,none⟩)] w fun e w'=>e= .returned (.bool (lV xc.pages x))∧Mem w [] w':=by
 have gkb:pF w k (aL (⟨⟨xc,xa,xg,xl⟩,xy⟩:aP)) 141:=⟨rH⟩
 have oE:cI=1099511627776:=rfl
 refine ba (args:=[_,_]) Tryz.func170 rfl Tryz.ntmps170 rfl ?_
 change Cw _ _ _ _ _ [(0, .agg (br x)),(1, .pointer (some ⟨cb,0,none⟩))] []
 refine Gc ?_
 refine bX rfl fun b2=> ?_
 refine Gs ?_
 refine Gc ?_
 refine gO (by kernel_rfl) (by kernel_rfl) ?_
 iterate 2 refine Gq ?_
 refine bc (L3 rfl oI) ?_
 iterate 4 refine Gq ?_
 refine bc (Ry.to (v':= .int .i64 xc.pages) (mF rfl) rfl) ?_
 iterate 2 refine Gq ?_
 iterate 3 refine Gh ?_
 iterate 2 refine Gq ?_
 refine Gc ?_
 refine aq (.inl rfl) (aI rfl (ak rfl)) (fun w1 hw=> ?_)
 exact⟨congrArg (fun b=>Ending.returned (Value.bool b)) (rfl),ah.mem hw⟩
instance {w0:World}{L:List ai}{cb k i j:Nat}{xc:Cp}{xa:Sl Int}{xg:UInt64}{xl:Int}{xy:Bool}{T:TypeId}[q:Has L cb #[.pointer (some ⟨k,0,none⟩)] T i][q2:Has L k (aL (⟨⟨xc,xa,xg,xl⟩,xy⟩:aP)) 141 j]:qy Tryz.prog w0 L 170 #[.pointer (some ⟨cb,0,none⟩)] br (lV xc.pages):=⟨inferInstance,fun w hw x=>W7 w cb k xc xa xg xl xy (by rw[hw.cell q.h];rfl) (hw.block q2.h) x⟩
theorem W8(w0 w:World)(L:List ai)(k:Nat)(xc:Cp)(xa:Sl Int)(xg:UInt64)(xl:Int)(xy:Bool)(hw:Mem w0 (ar k (aL (⟨⟨xc,xa,xg,xl⟩,xy⟩:aP)) 141::fz xc::fz xa::L) w)(bb:cO (⟨⟨cv xc,xa.xs,xg.toNat,xl⟩,xy⟩:WV)):Calls Tryz.prog 152 #[.pointer (some ⟨k,0,none⟩)] w fun e w'=> ∃zz:Cp×Sl Int×UInt64×Int,e= .returned (.int .i64 ((et (⟨⟨cv xc,xa.xs,xg.toNat,xl⟩,xy⟩:WV)).2))∧((⟨⟨cv zz.1,zz.2.1.xs,zz.2.2.1.toNat,zz.2.2.2⟩,xy⟩:WV)=(et (⟨⟨cv xc,xa.xs,xg.toNat,xl⟩,xy⟩:WV)).1)∧Mem w0 (ar k (aL (⟨⟨zz.1,zz.2.1,zz.2.2.1,zz.2.2.2⟩,xy⟩:aP)) 141::fz zz.1::fz zz.2.1::L) w':=by
 have gm:=bb
 have hk:aT (cv xc)=true:=gm.ae
 have xC:4≤(cv xc).blocks.length:=gm.qo
 have hd:=eF hk
 have zH:xg.toNat<281474976710656:=gm.gen
 have oN:qe (cv xc) (aw [xa]):=by rw[zE];exact(show gV (cv xc) xa.xs from gm.si).kn hk (by omega) (by have:xa.xs.length≤64:=gm.ka;omega)
 have qA:kb (cv xc) (av (cv xc) (aw [xa])):=u5 _ _
 have iO:=qA.1
 have ei:(aw [xa]).length≤64:=by rw[zE];exact gm.ka
 have iJ: ∀x∈(av (cv xc) (aw [xa])),0≤x.live∧x.live≤1000000∧0≤x.used∧x.used≤1000000:=fun x hx=>by
  have t:=rk hk hx
  have:=t.KN;have:=t.S5;have:=t.zd;have:=t.wQ
  exact⟨by omega,by omega,by omega,by omega⟩
 have GL:(et (⟨⟨cv xc,xa.xs,xg.toNat,xl⟩,xy⟩:WV))=(if(gy (av (cv xc) (aw [xa])) xc.pages).2=true∧u3 xg.toNat=false then(if(eZ (⟨⟨cv xc,xa.xs,xg.toNat,xl⟩,xy⟩:WV) (av (cv xc) (aw [xa])) (gy (av (cv xc) (aw [xa])) xc.pages).1).2≠6 then(eZ (⟨⟨cv xc,xa.xs,xg.toNat,xl⟩,xy⟩:WV) (av (cv xc) (aw [xa])) (gy (av (cv xc) (aw [xa])) xc.pages).1)else jM (eZ (⟨⟨cv xc,xa.xs,xg.toNat,xl⟩,xy⟩:WV) (av (cv xc) (aw [xa])) (gy (av (cv xc) (aw [xa])) xc.pages).1).1 (av (cv xc) (aw [xa])))else jM (⟨⟨cv xc,xa.xs,xg.toNat,xl⟩,xy⟩:WV) (av (cv xc) (aw [xa]))):=by
  have e:(av (cv xc) (aw [xa]))=cV (⟨⟨cv xc,xa.xs,xg.toNat,xl⟩,xy⟩:WV):=by rw[zE];rfl
  rw[e];rfl
 refine kl (args:=[_]) Tryz.func152 rfl Tryz.ntmps152 rfl hw ?_
 change Cw _ _ _ _ _ [(0, .pointer (some ⟨k,0,none⟩))] (ar k (aL (⟨⟨xc,xa,xg,xl⟩,xy⟩:aP)) 141::fz xc::fz xa::L)
 refine Gc ?_
 refine Uh (by first|rfl|exact Sv.iU _) rfl fun b1=> ?_
 refine Gs ?_
 refine Gc ?_
 refine jn [6,7] [[],[],[],[],[],[],[],[6],[6,7]] [0,1,2,3,4,5,6,7,8] [ar b1 #[.pointer (some ⟨k,0,none⟩)] 139,ar k (aL (⟨⟨xc,xa,xg,xl⟩,xy⟩:aP)) 141,fz xa] (fun _ hw=>ah.mem hw) (by kernel_rfl) (by kernel_rfl) ?_
 refine al rfl (bH rfl) ?_
 refine al rfl (bH rfl) ?_
 refine al rfl (jG rfl) ?_
 refine al rfl (aH (o':=0) rfl rfl) ?_
 refine al rfl (aH (o':=6) rfl rfl) ?_
 refine al rfl (Ry.to (v':=xa.sv.val) (bH rfl) rfl) ?_
 refine dE rfl (Jq (enc:=bY) (vals:=[xa.sv.val]) [xa] rfl (by simp only[List.map_cons,List.map_nil,Sv.iU];rfl) rfl (by decide) (by decide) fun zL=>⟨fun _ hw=>ah.mem hw,?_⟩)
 refine dE rfl (nG (hc:=Gy (l:=(⟨⟨false,zL,0,1,1,none⟩,[xa]⟩:Sl (Sl Int)))) rfl oN fun fG zN=>⟨fun _ hw=>ah.mem hw,?_⟩)
 refine al rfl (bl rfl) ?_
 iterate 2 refine Gi ?_
 refine vV (X:=Cp×Sl Int×UInt64×Int) (fun zz=>[(1, .pointer (some ⟨b1,0,none⟩)),(3,fG.val)]) (fun zz=>ar b1 #[.pointer (some ⟨k,0,none⟩)] 139::ar k (aL (⟨⟨zz.1,zz.2.1,zz.2.2.1,zz.2.2.2⟩,xy⟩:aP)) 141::fz zz.1::fz zz.2.1::own br 4 fG (av (cv xc) (aw [xa]))::L) (fun zz=>(et (⟨⟨cv xc,xa.xs,xg.toNat,xl⟩,xy⟩:WV))=jM (⟨⟨cv zz.1,zz.2.1.xs,zz.2.2.1.toNat,zz.2.2.2⟩,xy⟩:WV) (av (cv xc) (aw [xa]))∧cO (⟨⟨cv zz.1,zz.2.1.xs,zz.2.2.1.toNat,zz.2.2.2⟩,xy⟩:WV)∧kb (cv zz.1) (av (cv xc) (aw [xa]))) ?_ ?_
 ·
  refine Gc ?_
  iterate 2 refine Gs ?_
  refine fy (cC rfl ⟨show(av (cv xc) (aw [xa])).length≤1000000 by omega,iJ⟩) ?_
  refine Gs ?_
  refine ag (aV (v:= .int .i64 ((gy (av (cv xc) (aw [xa])) xc.pages).1)) rfl rfl) ?_
  refine ag (aV (v:= .bool ((gy (av (cv xc) (aw [xa])) xc.pages).2)) rfl rfl) ?_
  iterate 2 refine Gs ?_
  refine Gc ?_
  iterate 2 refine Gs ?_
  refine gN rfl rfl rfl (fun hg=>(Ry.yl (bH rfl))) ?_
  refine gN rfl rfl rfl (fun hg=>cC (dA (aG hg rfl) gE) zH) ?_
  refine gN rfl rfl rfl (fun hg=>(Ry.yl (iR (aG hg rfl)))) ?_
  refine Gs ?_
  refine Gc ?_
  refine au rfl (fun h0=> ?_) (fun h0=> ?_)
  ·
   replace h0:=bz h0
   have hv:=Fl h0.1
   refine Gc ?_
   iterate 3 refine Gs ?_
   refine bq rfl ⟨gm,qA,hv.1,hv.2⟩ fun jS tT=> ?_
   refine Gs ?_
   refine Gc ?_
   iterate 2 refine Gs ?_
   refine Gc ?_
   refine au rfl (fun h1=> ?_) (fun h1=> ?_)
   ·
    replace h1:=bz h1
    have hE:(et (⟨⟨cv xc,xa.xs,xg.toNat,xl⟩,xy⟩:WV))=(eZ (⟨⟨cv xc,xa.xs,xg.toNat,xl⟩,xy⟩:WV) (av (cv xc) (aw [xa])) (gy (av (cv xc) (aw [xa])) xc.pages).1):=by rw[GL,if_pos h0,if_pos h1]
    refine Gc ?_
    iterate 2 refine Gs ?_
    refine Gc ?_
    refine aq (.inl rfl) (aI rfl (ak rfl)) (fun w1 hw=> ?_)
    exact⟨(jS.1,jS.2.1,jS.2.2.1,jS.2.2.2),by rw[hE],by rw[hE];exact tT,ah.mem hw⟩
   ·
    replace h1:=bz h1
    have ez:(eZ (⟨⟨cv xc,xa.xs,xg.toNat,xl⟩,xy⟩:WV) (av (cv xc) (aw [xa])) (gy (av (cv xc) (aw [xa])) xc.pages).1).2=6:=h1
    obtain⟨r1,r2,r3⟩:=Fv (i:=(gy (av (cv xc) (aw [xa])) xc.pages).1) gm qA
    refine Gi ?_
    exact oZ (jS.1,jS.2.1,jS.2.2.1,jS.2.2.2) ⟨by rw[GL,if_pos h0,if_neg (fun h=>h ez),←tT],by rw[tT];exact r1.ok,qA.bS (by have:=r1.bS;rw[←tT]at this;exact this) (by have:=r3 ez;rw[←tT]at this;exact this)⟩ (Sub.cons rfl (Sub.cons rfl (Sub.nil _))) (fun w hw=>ah.mem hw)
  ·
   replace h0:=bz h0
   have tP: ¬((gy (av (cv xc) (aw [xa])) xc.pages).2=true∧u3 xg.toNat=false):=fun g=>h0.elim (fun h=>absurd (h.symm.trans g.1) (by simp)) (fun h=>absurd (h.symm.trans g.2) (by simp))
   refine Gi ?_
   exact oZ (xc,xa,xg,xl) ⟨by rw[GL,if_neg tP],gm,qA⟩ (Sub.cons rfl (Sub.cons rfl (Sub.nil _))) (fun w hw=>ah.mem hw)
 ·
  rintro⟨c,a,g,m⟩ ⟨sG,tV,xE⟩
  dsimp only
  simp only at sG tV xE
  have W9:4≤(cv c).blocks.length:=tV.qo
  have hdc:=eF (show aT (cv c)=true from tV.ae)
  refine Gc ?_
  refine Gs ?_
  refine ag (F0 rfl) ?_
  refine bq rfl (by omega) fun x39 ahS=> ?_
  refine Gs ?_
  refine Gc ?_
  iterate 6 refine Gs ?_
  refine ag (Ry.to (v':= .int .i64 c.pages) (bH rfl) rfl) ?_
  iterate 2 refine Gs ?_
  refine ag (aV (v:= .int .i64 ((eK (bR (lV c.pages) (av (cv xc) (aw [xa]))) c.pages).1)) rfl rfl) ?_
  refine ag (aV (v:= .bool ((eK (bR (lV c.pages) (av (cv xc) (aw [xa]))) c.pages).2)) rfl rfl) ?_
  iterate 2 refine Gs ?_
  refine Gc ?_
  iterate 2 refine Gs ?_
  refine Gc ?_
  refine au rfl (fun h2=> ?_) (fun h2=> ?_)
  ·
   replace h2:=bz h2
   have hE:jM (⟨⟨cv c,a.xs,g.toNat,m⟩,xy⟩:WV) (av (cv xc) (aw [xa]))=((⟨⟨cv c,a.xs,g.toNat,m⟩,xy⟩:WV),6):=by
    rw[jM]
    exact if_pos (show(eK (bR (lV c.pages) (av (cv xc) (aw [xa]))) c.pages).2=false from h2)
   refine Gc ?_
   refine Gs ?_
   refine Gc ?_
   refine aq (.inl rfl) (aI rfl (ak rfl)) (fun w1 hw=> ?_)
   exact⟨(c,a,g,m),by rw[sG,hE],by rw[sG,hE],ah.mem hw⟩
  ·
   replace h2:=bz h2
   have nj:=tA xE (fun x h=>(kB h).1) (show(eK (bR (lV c.pages) (av (cv xc) (aw [xa]))) c.pages).2=true from h2)
   change 0≤(eK (bR (lV c.pages) (av (cv xc) (aw [xa]))) c.pages).1∧(eK (bR (lV c.pages) (av (cv xc) (aw [xa]))) c.pages).1<_∧_ at nj
   have hE:jM (⟨⟨cv c,a.xs,g.toNat,m⟩,xy⟩:WV) (av (cv xc) (aw [xa]))=((⟨⟨cv c,a.xs,g.toNat,m⟩,xy⟩:WV).on (cy (cv c) ((eK (bR (lV c.pages) (av (cv xc) (aw [xa]))) c.pages).1+2)).1,iZ (cy (cv c) ((eK (bR (lV c.pages) (av (cv xc) (aw [xa]))) c.pages).1+2)).2):=by
    rw[jM]
    exact if_neg (fun g=>absurd ((show(eK (bR (lV c.pages) (av (cv xc) (aw [xa]))) c.pages).2=true from h2).symm.trans g) (by simp))
   refine Gc ?_
   iterate 3 refine Gs ?_
   refine bq rfl ⟨tV.ae,by omega,by omega⟩ fun CN GM=> ?_
   iterate 2 refine Gs ?_
   refine Gc ?_
   refine aq (.inl rfl) (aI rfl (ak rfl)) (fun w1 hw=> ?_)
   exact⟨(CN,a,g,m),by rw[sG,hE],by rw[sG,hE,GM];rfl,ah.mem hw⟩
instance ahT{w0:World}{L R1 R2 L2:List ai}{i0 i1 i2:Nat}{k:Nat}{xc:Cp}{xa:Sl Int}{xg:UInt64}{xl:Int}{xy:Bool}[q0:Has L k (aL (⟨⟨xc,xa,xg,xl⟩,xy⟩:aP)) 141 i0][d0:dq L i0 R1][q1:At R1 (fz xc) i1][d1:dq R1 i1 R2][q2:At R2 (fz xa) i2][d2:dq R2 i2 L2]:cl Tryz.prog 152 w0 L [.pointer (some ⟨k,0,none⟩)] (Cp×Sl Int×UInt64×Int) (fun zz=> .int .i64 ((et (⟨⟨cv xc,xa.xs,xg.toNat,xl⟩,xy⟩:WV)).2)) (fun zz=>ar k (aL (⟨⟨zz.1,zz.2.1,zz.2.2.1,zz.2.2.2⟩,xy⟩:aP)) 141::fz zz.1::fz zz.2.1::L2) (fun zz=>(⟨⟨cv zz.1,zz.2.1.xs,zz.2.2.1.toNat,zz.2.2.2⟩,xy⟩:WV)=(et (⟨⟨cv xc,xa.xs,xg.toNat,xl⟩,xy⟩:WV)).1) (cO (⟨⟨cv xc,xa.xs,xg.toNat,xl⟩,xy⟩:WV)):=⟨fun hp w hw=>W8 w0 w L2 k xc xa xg xl xy (xm q0.h d0.h q1.h d1.h q2.h d2.h hw) hp⟩
open Go.aC Go.Kb
open Go.RowKit
theorem Xa(w0 w:World)(L:List ai)(k:Nat)(xc:Cp)(xa:Sl Int)(xg:UInt64)(xl:Int)(xy:Bool)(n:Int)(hw:Mem w0 (ar k (aL (⟨⟨xc,xa,xg,xl⟩,xy⟩:aP)) 141::fz xc::fz xa::L) w)(bb:cO (⟨⟨cv xc,xa.xs,xg.toNat,xl⟩,xy⟩:WV)):Calls Tryz.prog 126 #[.pointer (some ⟨k,0,none⟩), .int .i64 n] w fun e w'=> ∃zz:Cp×Sl Int×UInt64×Int×Bool,e= .returned (.int .i64 ((jN (⟨⟨cv xc,xa.xs,xg.toNat,xl⟩,xy⟩:WV) n).2))∧((⟨⟨cv zz.1,zz.2.1.xs,zz.2.2.1.toNat,zz.2.2.2.1⟩,zz.2.2.2.2⟩:WV)=(jN (⟨⟨cv xc,xa.xs,xg.toNat,xl⟩,xy⟩:WV) n).1)∧Mem w0 (ar k (aL (⟨⟨zz.1,zz.2.1,zz.2.2.1,zz.2.2.2.1⟩,zz.2.2.2.2⟩:aP)) 141::fz zz.1::fz zz.2.1::L) w':=by
 refine kl (args:=[_,_]) Tryz.func126 rfl Tryz.ntmps126 rfl hw ?_
 change Cw _ _ _ _ _ [(0, .pointer (some ⟨k,0,none⟩)),(1, .int .i64 n)] (ar k (aL (⟨⟨xc,xa,xg,xl⟩,xy⟩:aP)) 141::fz xc::fz xa::L)
 refine Gc ?_
 refine Gs ?_
 refine Gc ?_
 refine ca (X:=Nat×Cp×Sl Int×UInt64×Int) (fun zz=>[(0, .pointer (some ⟨k,0,none⟩)),(1, .int .i64 n)]) (fun zz=>ar k (aL (⟨⟨zz.2.1,zz.2.2.1,zz.2.2.2.1,zz.2.2.2.2⟩,xy⟩:aP)) 141::fz zz.2.1::fz zz.2.2.1::L) (fun zz=>(jN (⟨⟨cv xc,xa.xs,xg.toNat,xl⟩,xy⟩:WV) n)=lW zz.1 (⟨⟨cv zz.2.1,zz.2.2.1.xs,zz.2.2.2.1.toNat,zz.2.2.2.2⟩,xy⟩:WV) n∧cO (⟨⟨cv zz.2.1,zz.2.2.1.xs,zz.2.2.2.1.toNat,zz.2.2.2.2⟩,xy⟩:WV)∧(cI -(cv zz.2.1).ops).toNat<zz.1) (fun zz=>zz.1) ((cI -(cv xc).ops).toNat+1,xc,xa,xg,xl) ⟨rfl,bb,by simp only;omega⟩ (Sub.cons rfl (Sub.cons rfl (Sub.nil _))) (fun w hw=>ah.mem hw) ?_
 rintro⟨m,c,a,g,q⟩ ⟨bh,aF,bt⟩
 dsimp only
 simp only at bh aF bt
 obtain⟨r,rfl⟩: ∃r,m=r+1:=⟨m -1,by omega⟩
 have hk:aT (cv c)=true:=aF.ae
 have xC:4≤(cv c).blocks.length:=aF.qo
 have oN:qe (cv c) a.xs:=(show gV (cv c) a.xs from aF.si).kn hk (by omega) (by have:a.xs.length≤64:=aF.ka;omega)
 have CG:q=0∨q=1:=aF.last
 have bA:(jN (⟨⟨cv xc,xa.xs,xg.toNat,xl⟩,xy⟩:WV) n)=(if n≤(jx (cv c) a.xs).1 then((⟨⟨cv c,a.xs,g.toNat,q⟩,xy⟩:WV),0)else if n≤(jx (cv c) a.xs).2∧rj (cv c) q<2 then({(⟨⟨cv c,a.xs,g.toNat,q⟩,xy⟩:WV)with beyond:=true},0)else if(et (⟨⟨cv c,a.xs,g.toNat,q⟩,xy⟩:WV)).2=0 then lW r (et (⟨⟨cv c,a.xs,g.toNat,q⟩,xy⟩:WV)).1 n else if(et (⟨⟨cv c,a.xs,g.toNat,q⟩,xy⟩:WV)).2≠6 then(et (⟨⟨cv c,a.xs,g.toNat,q⟩,xy⟩:WV))else if n≤(jx (cv c) a.xs).2 then({(et (⟨⟨cv c,a.xs,g.toNat,q⟩,xy⟩:WV)).1 with beyond:=true},0)else((et (⟨⟨cv c,a.xs,g.toNat,q⟩,xy⟩:WV)).1,5)):=by rw[bh,lW]
 refine Gc ?_
 refine Gs ?_
 refine fy (cC rfl oN) ?_
 refine Gs ?_
 refine ag (aV (v:= .int .i64 ((jx (cv c) a.xs).1)) rfl rfl) ?_
 refine ag (aV (v:= .int .i64 ((jx (cv c) a.xs).2)) rfl rfl) ?_
 iterate 2 refine Gs ?_
 refine Gc ?_
 iterate 3 refine Gs ?_
 refine Gc ?_
 refine au rfl (fun h0=> ?_) (fun h0=> ?_)
 ·
  replace h0:=bz h0
  have hE:(jN (⟨⟨cv xc,xa.xs,xg.toNat,xl⟩,xy⟩:WV) n)=((⟨⟨cv c,a.xs,g.toNat,q⟩,xy⟩:WV),0):=by rw[bA,if_pos h0]
  refine Gc ?_
  refine Gs ?_
  refine Gc ?_
  refine aq (.inl rfl) (aI rfl (ak rfl)) (fun w1 hw=> ?_)
  exact⟨(c,a,g,q,xy),by rw[hE],by rw[hE],ah.mem hw⟩
 ·
  replace h0:=bz h0
  refine Gc ?_
  iterate 4 refine Gs ?_
  refine Gg ?_
  refine gN rfl rfl rfl (fun hg=>cC (dA (aG hg rfl) gE) ⟨hk,by omega,CG⟩) ?_
  refine Gg ?_
  refine Gs ?_
  refine Gc ?_
  refine au rfl (fun h1=> ?_) (fun h1=> ?_)
  ·
   replace h1:=bz h1
   have hE:(jN (⟨⟨cv xc,xa.xs,xg.toNat,xl⟩,xy⟩:WV) n)=({(⟨⟨cv c,a.xs,g.toNat,q⟩,xy⟩:WV)with beyond:=true},0):=by rw[bA,if_neg h0,if_pos h1]
   refine Gc ?_
   iterate 3 refine Gs ?_
   refine eN (cs':=aL (⟨⟨c,a,g,q⟩,true⟩:aP)) rfl rfl (by show 9<10;decide) (by first|rfl|exact Sv.one _) rfl ?_
   refine Gc ?_
   refine Gs ?_
   refine Gc ?_
   refine aq (.inl rfl) (aI rfl (ak rfl)) (fun w1 hw=> ?_)
   exact⟨(c,a,g,q,true),by rw[hE],by rw[hE],ah.mem hw⟩
  ·
   replace h1:=bz h1
   have ez: ¬(n≤(jx (cv c) a.xs).2∧rj (cv c) q<2):=fun g=>h1.elim (fun h=>h g.1) (fun h=>h g.2)
   refine Gc ?_
   refine Gs ?_
   refine bq rfl aF fun du mG=> ?_
   obtain⟨k1,k2⟩:=B5 aF
   refine Gs ?_
   refine Gc ?_
   iterate 3 refine Gs ?_
   refine Gc ?_
   refine au rfl (fun h2=> ?_) (fun h2=> ?_)
   ·
    replace h2:=bz h2
    refine Gi ?_
    refine P5 rfl ?_
    iterate 2 refine Gi ?_
    have fa:(et (⟨⟨cv c,a.xs,g.toNat,q⟩,xy⟩:WV)).2=0:=h2
    have ho:(cv c).ops<(et (⟨⟨cv c,a.xs,g.toNat,q⟩,xy⟩:WV)).1.v.ae.ops:=k2 fa
    rw[←mG]at ho
    have hle:=qm (show aT (cv du.1)=true by have:=k1.ok.ae;rw[←mG]at this;exact this)
    change(cv c).ops<(cv du.1).ops at ho
    exact bx (x:=(r+1,c,a,g,q)) (r,du.1,du.2.1,du.2.2.1,du.2.2.2) ⟨by rw[bA,if_neg h0,if_neg ez,if_pos fa,←mG],by have:=k1.ok;rw[←mG]at this;exact this,by simp only;omega⟩ (by simp only;omega) (Sub.cons rfl (Sub.cons rfl (Sub.nil _))) (fun w hw=>ah.mem hw)
   ·
    replace h2:=bz h2
    have fa: ¬(et (⟨⟨cv c,a.xs,g.toNat,q⟩,xy⟩:WV)).2=0:=h2
    refine Gc ?_
    iterate 3 refine Gs ?_
    refine Gc ?_
    refine au rfl (fun h3=> ?_) (fun h3=> ?_)
    ·
     replace h3:=bz h3
     have hE:(jN (⟨⟨cv xc,xa.xs,xg.toNat,xl⟩,xy⟩:WV) n)=(et (⟨⟨cv c,a.xs,g.toNat,q⟩,xy⟩:WV)):=by rw[bA,if_neg h0,if_neg ez,if_neg fa,if_pos h3]
     refine Gc ?_
     iterate 2 refine Gs ?_
     refine Gc ?_
     refine aq (.inl rfl) (aI rfl (ak rfl)) (fun w1 hw=> ?_)
     exact⟨(du.1,du.2.1,du.2.2.1,du.2.2.2,xy),by rw[hE],by rw[hE];exact mG,ah.mem hw⟩
    ·
     replace h3:=bz h3
     have nX: ¬(et (⟨⟨cv c,a.xs,g.toNat,q⟩,xy⟩:WV)).2≠6:=fun h=>h h3
     refine Gc ?_
     iterate 4 refine Gs ?_
     refine Gc ?_
     refine au rfl (fun h4=> ?_) (fun h4=> ?_)
     ·
      replace h4:=bz h4
      have hE:(jN (⟨⟨cv xc,xa.xs,xg.toNat,xl⟩,xy⟩:WV) n)=({(et (⟨⟨cv c,a.xs,g.toNat,q⟩,xy⟩:WV)).1 with beyond:=true},0):=by rw[bA,if_neg h0,if_neg ez,if_neg fa,if_neg nX,if_pos h4]
      refine Gc ?_
      iterate 3 refine Gs ?_
      refine eN (cs':=aL (⟨⟨du.1,du.2.1,du.2.2.1,du.2.2.2⟩,true⟩:aP)) rfl rfl (by show 9<10;decide) (by first|rfl|exact Sv.one _) rfl ?_
      refine Gc ?_
      refine Gs ?_
      refine Gc ?_
      refine aq (.inl rfl) (aI rfl (ak rfl)) (fun w1 hw=> ?_)
      exact⟨(du.1,du.2.1,du.2.2.1,du.2.2.2,true),by rw[hE],by rw[hE,←mG],ah.mem hw⟩
     ·
      replace h4:=bz h4
      have hE:(jN (⟨⟨cv xc,xa.xs,xg.toNat,xl⟩,xy⟩:WV) n)=((et (⟨⟨cv c,a.xs,g.toNat,q⟩,xy⟩:WV)).1,5):=by rw[bA,if_neg h0,if_neg ez,if_neg fa,if_neg nX,if_neg h4]
      refine Gc ?_
      refine Gs ?_
      refine Gc ?_
      refine aq (.inl rfl) (aI rfl (ak rfl)) (fun w1 hw=> ?_)
      exact⟨(du.1,du.2.1,du.2.2.1,du.2.2.2,xy),by rw[hE],by rw[hE];exact mG,ah.mem hw⟩
instance ahU{w0:World}{L R1 R2 L2:List ai}{i0 i1 i2:Nat}{k:Nat}{xc:Cp}{xa:Sl Int}{xg:UInt64}{xl:Int}{xy:Bool}{n:Int}[q0:Has L k (aL (⟨⟨xc,xa,xg,xl⟩,xy⟩:aP)) 141 i0][d0:dq L i0 R1][q1:At R1 (fz xc) i1][d1:dq R1 i1 R2][q2:At R2 (fz xa) i2][d2:dq R2 i2 L2]:cl Tryz.prog 126 w0 L [.pointer (some ⟨k,0,none⟩), .int .i64 n] (Cp×Sl Int×UInt64×Int×Bool) (fun zz=> .int .i64 ((jN (⟨⟨cv xc,xa.xs,xg.toNat,xl⟩,xy⟩:WV) n).2)) (fun zz=>ar k (aL (⟨⟨zz.1,zz.2.1,zz.2.2.1,zz.2.2.2.1⟩,zz.2.2.2.2⟩:aP)) 141::fz zz.1::fz zz.2.1::L2) (fun zz=>(⟨⟨cv zz.1,zz.2.1.xs,zz.2.2.1.toNat,zz.2.2.2.1⟩,zz.2.2.2.2⟩:WV)=(jN (⟨⟨cv xc,xa.xs,xg.toNat,xl⟩,xy⟩:WV) n).1) (cO (⟨⟨cv xc,xa.xs,xg.toNat,xl⟩,xy⟩:WV)):=⟨fun hp w hw=>Xa w0 w L2 k xc xa xg xl xy n (xm q0.h d0.h q1.h d1.h q2.h d2.h hw) hp⟩
open Go.aC Go.Kb
open Go.RowKit
theorem Xb(i:Int)(g:UInt64)(b:Sl UInt8)(w:World):(Instr.build 110 #[(0, .int .i64 1),(1, .int .i64 i),(2, .int .u64 (g.toNat:Int)),(3,b.sv.val)]).run Tryz.prog w= .ok (.agg (cG ⟨1,i,g,b⟩)) w:=by
 obtain⟨⟨e,b,o,l,c,p⟩,xs⟩:=b
 unfold cG
 cases e<;>kernel_rfl
instance (x:It):fW (nB x) 2:=⟨rfl,bu.one x⟩
def CO(k:Nat)(a:Sl Int)(g:UInt64)(T:TypeId):ai:=⟨fun b=>b=k,fun h=> ∃(c:Cp) (l:Int) (y:Bool),h k=Option.some (.cells (aL ⟨⟨c,a,g,l⟩,y⟩) T (0,0)),fun h h' e s=>by obtain⟨c,l,y,hs⟩:=s;exact⟨c,l,y,by rw[e k rfl];exact hs⟩⟩
theorem GN{w0 w:World}{L:List ai}{k:Nat}{a:Sl Int}{g:UInt64}{T:TypeId}{c:Cp}{l:Int}{y:Bool}(h:Mem w0 (ar k (aL ⟨⟨c,a,g,l⟩,y⟩) T::L) w):Mem w0 (CO k a g T::L) w:=by
 have hs:w.heap[k]? =Option.some (.cells (aL ⟨⟨c,a,g,l⟩,y⟩) T (0,0)):=h.block (i:=0) rfl
 refine⟨h.below,fun e he=> ?_,fun e he b hb=> ?_,List.pairwise_cons.2 ⟨fun x hx b hb=>(List.pairwise_cons.1 h.nw).1 x hx b hb,(List.pairwise_cons.1 h.nw).2⟩⟩
 ·
  rcases List.mem_cons.1 he with rfl|he
  ·
   exact⟨c,l,y,hs⟩
  ·
   exact h.sat e (List.mem_cons_of_mem _ he)
 ·
  rcases List.mem_cons.1 he with rfl|he
  ·
   exact h.ji _ List.mem_cons_self b hb
  ·
   exact h.ji e (List.mem_cons_of_mem _ he) b hb
section
variable {P:Program} {N:cz} {w0:World} {env:Env} {L:List ai} {d:Option Tmp} {ty:TypeId} {ps:String} {af:Array Edge} {gd:Option (Nat×Bool)}
theorem Xc{t:TypeId}{x:Operand}{k i:Nat}{a:Sl Int}{g:UInt64}{T:TypeId}(hx:ev env x=some (.pointer (some ⟨k,6,none⟩)))[ht:gM P t](q:At L (CO k a g T) i):Ry P N w0 env L ⟨d, .load t x,ty,ps,af,gd⟩ a.sv.val:=vM ht hx fun w hw=>by
 obtain⟨c,l,y,hs⟩:=hw.get q.h
 simp[World.cell?,show w.heap[k]? =_ from hs,aL]
theorem Xd{t:TypeId}{x:Operand}{k i:Nat}{a:Sl Int}{g:UInt64}{T:TypeId}(hx:ev env x=some (.pointer (some ⟨k,7,none⟩)))[ht:gM P t](q:At L (CO k a g T) i):Ry P N w0 env L ⟨d, .load t x,ty,ps,af,gd⟩ (.int .u64 g.toNat):=vM ht hx fun w hw=>by
 obtain⟨c,l,y,hs⟩:=hw.get q.h
 simp[World.cell?,show w.heap[k]? =_ from hs,aL]
end
instance:fe Tryz.prog 102 (.agg (nB ⟨0,⟨Sv.none,[]⟩⟩)):=⟨by kernel_rfl⟩
theorem Xe(w0 w:World)(L:List ai)(k:Nat)(xc:Cp)(xa:Sl Int)(xg:UInt64)(xl:Int)(xy:Bool)(it:Sl It)[nH:aU w0 L it](hw:Mem w0 (ar k (aL (⟨⟨xc,xa,xg,xl⟩,xy⟩:aP)) 141::fz xc::fz xa::L) w)(bb:cO (⟨⟨cv xc,xa.xs,xg.toNat,xl⟩,xy⟩:WV)∧it.xs.length≤1000000∧ ∀x∈it.xs,0≤x.id∧x.id<xa.xs.length∧x.id<64):Calls Tryz.prog 88 #[.pointer (some ⟨k,0,none⟩),it.sv.val] w fun e w'=> ∃zz:Cp×Sl Int×UInt64×Int×Bool,e= .returned (.int .i64 ((gz (⟨⟨cv xc,xa.xs,xg.toNat,xl⟩,xy⟩:WV) (it.xs.map bo)).2))∧((⟨⟨cv zz.1,zz.2.1.xs,zz.2.2.1.toNat,zz.2.2.2.1⟩,zz.2.2.2.2⟩:WV)=(gz (⟨⟨cv xc,xa.xs,xg.toNat,xl⟩,xy⟩:WV) (it.xs.map bo)).1)∧Mem w0 (ar k (aL (⟨⟨zz.1,zz.2.1,zz.2.2.1,zz.2.2.2.1⟩,zz.2.2.2.2⟩:aP)) 141::fz zz.1::fz zz.2.1::L) w':=by
 obtain⟨gm,lQ,GO⟩:=bb
 have Xf:cO (⟨⟨cv xc,xa.xs,xg.toNat,xl⟩,false⟩:WV):=gm.by false
 have eP:(it.xs.map bo).length=it.xs.length:=List.length_map _
 refine kl (args:=[_,_]) Tryz.func88 rfl Tryz.ntmps88 rfl hw ?_
 change Cw _ _ _ _ _ [(0, .pointer (some ⟨k,0,none⟩)),(1,it.sv.val)] (ar k (aL (⟨⟨xc,xa,xg,xl⟩,xy⟩:aP)) 141::fz xc::fz xa::L)
 refine Gc ?_
 refine Gs ?_
 refine Gc ?_
 refine Gs ?_
 refine Gc ?_
 iterate 3 refine Gs ?_
 refine Gc ?_
 refine ca (X:=Nat) (fun zz=>[(16, .int .i64 (zz:Nat)),(5, .int .i64 ((((it.xs.map bo).take zz).filter fun x=>decide (0<x.2.length)).length:Nat)),(0, .pointer (some ⟨k,0,none⟩)),(1,it.sv.val),(14,it.sv.val),(15, .int .i64 (it.xs.length:Nat))]) (fun zz=>ar k (aL (⟨⟨xc,xa,xg,xl⟩,xy⟩:aP)) 141::fz xc::fz xa::L) (fun zz=>zz≤it.xs.length) (fun zz=>it.xs.length -zz) 0 (Nat.zero_le _) (Sub.cons rfl (Sub.cons rfl (Sub.cons rfl (Sub.cons rfl (Sub.cons rfl (Sub.cons rfl (Sub.nil _))))))) (fun w hw=>ah.mem hw) ?_
 rintro i bh
 refine Gc ?_
 refine Gs ?_
 refine Gc ?_
 refine au rfl (fun h0=> ?_) (fun h0=> ?_)
 ·
  replace h0:=bz h0
  obtain⟨z,hz⟩:=get_some (xs:=it.xs) (i:=i) (by omega)
  have tI:Mb z it:=⟨List.mem_of_getElem? hz⟩
  have tX:(it.xs.map bo)[i]? =Option.some (bo z):=by rw[List.getElem?_map,hz];rfl
  have eM:=Th tX
  have tO:(((it.xs.map bo).take i).filter fun x=>decide (0<x.2.length)).length≤i:=Nat.le_trans (List.length_filter_le _ _) (by rw[List.length_take];omega)
  refine Gc ?_
  refine ag (bg rfl rfl i rfl (by omega)) ?_
  refine ag (gG rfl i hz rfl) ?_
  have ahV:Mb z it:=⟨List.mem_of_getElem? hz⟩
  refine bK fun b7=> ?_
  refine Gs ?_
  refine Gc ?_
  iterate 4 refine Gs ?_
  refine Gc ?_
  refine au rfl (fun h1=> ?_) (fun h1=> ?_)
  ·
   replace h1:=bz h1
   rw[if_pos (show 0<(bo z).2.length from by simp only[bo];omega)]at eM
   refine Gi ?_
   iterate 3 refine Gs ?_
   refine Gc ?_
   iterate 2 refine Gs ?_
   refine Gi ?_
   exact bx (x:=(i)) (i+1) (by first|omega|(simp only[];omega)) (by first|omega|(simp only[];omega)) (Sub.cons rfl (Sub.cons (look_eq rfl (by rw[eM];rfl)) (Sub.cons rfl (Sub.cons rfl (Sub.cons rfl (Sub.cons rfl (Sub.nil _))))))) (fun w hw=>ah.mem hw)
  ·
   replace h1:=bz h1
   rw[if_neg (show ¬0<(bo z).2.length from by simp only[bo];omega)]at eM
   refine Gc ?_
   iterate 2 refine Gs ?_
   refine Gi ?_
   exact bx (x:=(i)) (i+1) (by first|omega|(simp only[];omega)) (by first|omega|(simp only[];omega)) (Sub.cons rfl (Sub.cons (look_eq rfl (by rw[eM,Nat.add_zero])) (Sub.cons rfl (Sub.cons rfl (Sub.cons rfl (Sub.cons rfl (Sub.nil _))))))) (fun w hw=>ah.mem hw)
 ·
  replace h0:=bz h0
  obtain rfl:i=it.xs.length:=by omega
  refine Gc ?_
  iterate 3 refine Gs ?_
  refine eN (cs':=aL (⟨⟨xc,xa,xg,xl⟩,false⟩:aP)) rfl rfl (by show 9<10;decide) (by first|rfl|exact Sv.one _) rfl ?_
  iterate 4 refine Gi ?_
  have GP:(((it.xs.map bo).take it.xs.length).filter fun x=>decide (0<x.2.length)).length=((it.xs.map bo).filter fun x=>decide (0<x.2.length)).length:=by rw[←eP,List.take_length]
  refine Gi ?_
  iterate 2 refine Gs ?_
  refine bq rfl Xf fun az sE=> ?_
  have hb:=B6 (l:=(it.xs.map bo)) gm
  have zO:(⟨(⟨cv az.1,az.2.1.xs,az.2.2.1.toNat,az.2.2.2.1⟩:VV),az.2.2.2.2⟩:WV)=(cA (⟨⟨cv xc,xa.xs,xg.toNat,xl⟩,xy⟩:WV) (it.xs.map bo)).1:=by rw[sE,cA,kZ,←eP,List.take_length]
  rw[←zO]at hb
  have vq:=hb.ok
  have Xg:aT (cv az.1)=true:=vq.ae
  have xC:4≤(cv az.1).blocks.length:=vq.qo
  have dD:az.2.1.xs.length≤64:=vq.ka
  have ahW:az.2.1.xs.length=xa.xs.length:=hb.u4
  have Xh:az.2.2.1.toNat<281474976710656:=vq.gen
  have rG:=GG Xh
  refine Gs ?_
  refine Gc ?_
  iterate 2 refine Gs ?_
  refine Gc ?_
  refine au rfl (fun h2=> ?_) (fun h2=> ?_)
  ·
   replace h2:=bz h2
   have fa:(cA (⟨⟨cv xc,xa.xs,xg.toNat,xl⟩,xy⟩:WV) (it.xs.map bo)).2≠0:=by rw[cA,kZ,←GP];exact h2
   have hE:(gz (⟨⟨cv xc,xa.xs,xg.toNat,xl⟩,xy⟩:WV) (it.xs.map bo))=(cA (⟨⟨cv xc,xa.xs,xg.toNat,xl⟩,xy⟩:WV) (it.xs.map bo)):=by rw[gz,if_pos fa]
   refine Gc ?_
   iterate 2 refine Gs ?_
   refine Gc ?_
   refine aq (.inl rfl) (aI rfl (ak rfl)) (fun w1 hw=> ?_)
   exact⟨(az.1,az.2.1,az.2.2.1,az.2.2.2.1,az.2.2.2.2),by rw[hE,cA,kZ,←GP],by rw[hE];exact zO,ah.mem hw⟩
  ·
   replace h2:=bz h2
   have fa: ¬(cA (⟨⟨cv xc,xa.xs,xg.toNat,xl⟩,xy⟩:WV) (it.xs.map bo)).2≠0:=by rw[cA,kZ,←GP];exact fun h=>h h2
   refine Gc ?_
   iterate 4 refine Gs ?_
   refine ag (Ry.to (v':=az.2.1.sv.val) (bH rfl) rfl) ?_
   refine bq rfl (by omega) fun kI V5=> ?_
   refine Gs ?_
   refine Gc ?_
   iterate 3 refine Gs ?_
   refine Gc ?_
   refine ca (X:=Nat×Cp×List Int) (fun zz=>[(44, .int .i64 (zz.1:Nat)),(0, .pointer (some ⟨k,0,none⟩)),(9,kI.val),(42,it.sv.val),(43, .int .i64 (it.xs.length:Nat))]) (fun zz=>ar k (aL (⟨⟨zz.2.1,az.2.1,az.2.2.1,az.2.2.2.1⟩,az.2.2.2.2⟩:aP)) 141::fz zz.2.1::fz az.2.1::own bG 1 kI zz.2.2::L) (fun zz=>zz.1≤it.xs.length∧(fF (⟨⟨cv xc,xa.xs,xg.toNat,xl⟩,xy⟩:WV) (it.xs.map bo))=(fV (⟨cv az.1,az.2.1.xs,az.2.2.1.toNat,az.2.2.2.1⟩:VV) az.2.2.2.2 ((it.xs.map bo).drop zz.1) (cv zz.2.1) zz.2.2)∧aT (cv zz.2.1)=true∧dw (cv az.1) (cv zz.2.1)∧gV (cv zz.2.1) zz.2.2∧zz.2.2.length=az.2.1.xs.length) (fun zz=>it.xs.length -zz.1) (0,az.1,az.2.1.xs) ⟨Nat.zero_le _,by rw[fF,←zO];rfl,Xg, .cX _,vq.si,rfl⟩ (Sub.cons rfl (Sub.cons rfl (Sub.cons rfl (Sub.cons rfl (Sub.cons rfl (Sub.nil _)))))) (fun w hw=>ah.mem hw) ?_
   rintro⟨j,d,zs⟩ ⟨ic,dz,iP,lC,xG,GQ⟩
   dsimp only
   simp only at ic dz iP lC xG GQ
   refine Gc ?_
   refine Gs ?_
   refine Gc ?_
   refine au rfl (fun h3=> ?_) (fun h3=> ?_)
   ·
    replace h3:=bz h3
    obtain⟨z,hz⟩:=get_some (xs:=it.xs) (i:=j) (by omega)
    have tI:Mb z it:=⟨List.mem_of_getElem? hz⟩
    have ahX:=GO z (List.mem_of_getElem? hz)
    obtain⟨zi,nP⟩:=get_some (xs:=zs) (i:=z.id.toNat) (by omega)
    have tX:(it.xs.map bo)[j]? =Option.some (bo z):=by rw[List.getElem?_map,hz];rfl
    have bA:(fV (⟨cv az.1,az.2.1.xs,az.2.2.1.toNat,az.2.2.2.1⟩:VV) az.2.2.2.2 ((it.xs.map bo).drop j) (cv d) zs)=(if(bo z).2.length=0 then(fV (⟨cv az.1,az.2.1.xs,az.2.2.1.toNat,az.2.2.2.1⟩:VV) az.2.2.2.2 ((it.xs.map bo).drop (j+1)) (cv d) (zs.set z.id.toNat 0))else if(cT (cv d) (az.2.1.xs++zs) az.2.2.2.2 (gW (⟨cv az.1,az.2.1.xs,az.2.2.1.toNat,az.2.2.2.1⟩:VV) (bo z))).2.2≠0 then((cT (cv d) (az.2.1.xs++zs) az.2.2.2.2 (gW (⟨cv az.1,az.2.1.xs,az.2.2.1.toNat,az.2.2.2.1⟩:VV) (bo z))).1,zs,(cT (cv d) (az.2.1.xs++zs) az.2.2.2.2 (gW (⟨cv az.1,az.2.1.xs,az.2.2.1.toNat,az.2.2.2.1⟩:VV) (bo z))).2.2)else(fV (⟨cv az.1,az.2.1.xs,az.2.2.1.toNat,az.2.2.2.1⟩:VV) az.2.2.2.2 ((it.xs.map bo).drop (j+1)) (cT (cv d) (az.2.1.xs++zs) az.2.2.2.2 (gW (⟨cv az.1,az.2.1.xs,az.2.2.1.toNat,az.2.2.2.1⟩:VV) (bo z))).1 (zs.set z.id.toNat (cT (cv d) (az.2.1.xs++zs) az.2.2.2.2 (gW (⟨cv az.1,az.2.1.xs,az.2.2.1.toNat,az.2.2.2.1⟩:VV) (bo z))).2.1))):=by
     rw[wN tX,fV];rfl
    have ei:(aw [az.2.1,(⟨kI,zs⟩:Sl Int)])=az.2.1.xs++zs:=Gz _ _
    have Xi:cD (⟨1,z.id,az.2.2.1+1,z.body⟩:eo)=gW (⟨cv az.1,az.2.1.xs,az.2.2.1.toNat,az.2.2.2.1⟩:VV) (bo z):=by simp only[cD,gW,bo,rG]
    have vr:(cT (cv d) (aw [az.2.1,(⟨kI,zs⟩:Sl Int)]) az.2.2.2.2 (cD (⟨1,z.id,az.2.2.1+1,z.body⟩:eo)))=(cT (cv d) (az.2.1.xs++zs) az.2.2.2.2 (gW (⟨cv az.1,az.2.1.xs,az.2.2.1.toNat,az.2.2.2.1⟩:VV) (bo z))):=by rw[ei,Xi]
    have Xj:gV (cv d) (aw [az.2.1,(⟨kI,zs⟩:Sl Int)]):=by rw[ei];exact((show gV (cv az.1) az.2.1.xs from vq.si).bS lC).append xG
    have Xk:(aw [az.2.1,(⟨kI,zs⟩:Sl Int)]).length≤1000:=by rw[ei,List.length_append];omega
    refine Gc ?_
    refine ag (bg rfl rfl j rfl (by omega)) ?_
    refine ag (gG rfl j hz rfl) ?_
    have ahY:Mb z it:=⟨List.mem_of_getElem? hz⟩
    refine bK fun jf=> ?_
    refine Gs ?_
    refine Gc ?_
    iterate 4 refine Gs ?_
    refine Gc ?_
    refine au rfl (fun h4=> ?_) (fun h4=> ?_)
    ·
     replace h4:=bz h4
     have jg:(bo z).2.length=0:=by simp only[bo];omega
     refine Gc ?_
     iterate 3 refine Gs ?_
     refine ag (bg rfl rfl z.id.toNat (by omega) (by omega)) ?_
     refine kO (s:=kI) (n:=1) (k:=z.id.toNat) (j:=0) (a:=zi) (a':=0) (xs:=zs) (enc:=bG) (c:=1) (v:= .int .i64 0) (by kernel_rfl) rfl rfl rfl nP (by simp[Value.cells,Value.oneCell']) rfl (by decide) (by rfl) ?_
     refine Gc ?_
     iterate 2 refine Gs ?_
     refine Gi ?_
     exact bx (x:=(j,d,zs)) (j+1,d,zs.set z.id.toNat 0) ⟨by simp only;omega,by rw[dz,bA,if_pos jg],iP,lC,fun y hy=>(List.mem_or_eq_of_mem_set hy).elim (xG y) fun hy=> .inl hy,by rw[List.length_set];exact GQ⟩ (by simp only;omega) (Sub.cons rfl (Sub.cons rfl (Sub.cons rfl (Sub.cons rfl (Sub.cons rfl (Sub.nil _)))))) (fun w hw=>ah.mem hw)
    ·
     replace h4:=bz h4
     have jg: ¬(bo z).2.length=0:=by simp only[bo];omega
     refine Gc ?_
     refine jn [18,19] [[],[],[],[],[],[],[],[],[],[],[],[],[],[],[],[],[],[],[],[18],[18,19],[18,19],[18,19],[18,19],[18,19]] [0,1,2,3,4,5,6,7,8,9,10,11,12,13,14,15,16,17,18,19,20,21,22,23,24] [CO k az.2.1 az.2.2.1 141,ar jf (nB z) 102] (fun _ hw=>(GN (ah.mem hw:Mem w0 [ar k (aL (⟨⟨d,az.2.1,az.2.2.1,az.2.2.2.1⟩,az.2.2.2.2⟩:aP)) 141,ar jf (nB z) 102] _))) (by kernel_rfl) (by kernel_rfl) ?_
     refine al rfl (aD rfl) ?_
     refine al rfl (aH (o':=0) rfl rfl) ?_
     refine al rfl (bH rfl) ?_
     refine al rfl (aD rfl) ?_
     refine al rfl (jG rfl) ?_
     refine al rfl (aH (o':=0) rfl rfl) ?_
     refine al rfl (aH (o':=7) rfl rfl) ?_
     refine al rfl (Xd (a:=az.2.1) (g:=az.2.2.1) (T:=141) rfl inferInstance) ?_
     refine al rfl (Ry.to (v':= .int .u64 ((az.2.2.1+1).toNat:Int)) (yo (p:=az.2.2.1.toNat) (q:=1) rfl rfl rfl rfl (by simp only[nb];omega)) (by rw[rG])) ?_
     refine al rfl (aH (o':=1) rfl rfl) ?_
     refine al rfl (bH rfl) ?_
     refine al rfl (cR (v:= .agg (cG (⟨1,z.id,az.2.2.1+1,z.body⟩:eo))) rfl (Xb z.id (az.2.2.1+1) z.body)) ?_
     refine al rfl (aD rfl) ?_
     refine al rfl (jG rfl) ?_
     refine al rfl (aH (o':=0) rfl rfl) ?_
     refine al rfl (aH (o':=6) rfl rfl) ?_
     refine al rfl (Xc (a:=az.2.1) (g:=az.2.2.1) (T:=141) rfl inferInstance) ?_
     refine al rfl (aD rfl) ?_
     refine dE rfl (Jq (enc:=bY) (vals:=[az.2.1.sv.val,kI.val]) [az.2.1,(⟨kI,zs⟩:Sl Int)] rfl (by simp only[List.map_cons,List.map_nil,Sv.iU];rfl) rfl (by decide) (by decide) fun Xl=>⟨fun _ hw=>(GN (ah.mem hw:Mem w0 [ar k (aL (⟨⟨d,az.2.1,az.2.2.1,az.2.2.2.1⟩,az.2.2.2.2⟩:aP)) 141,ar jf (nB z) 102] _)),?_⟩)
     refine dE rfl (nG (hc:=WH (q:=(⟨1,z.id,az.2.2.1+1,z.body⟩:eo)) (l:=(⟨⟨false,Xl,0,2,2,none⟩,[az.2.1,(⟨kI,zs⟩:Sl Int)]⟩:Sl (Sl Int)))) rfl ⟨iP,by rw[lC.len];omega,Xj,Xk⟩ fun GR GS=>⟨fun _ hw=>(GN (ah.mem hw:Mem w0 [ar k (aL (⟨⟨GR,az.2.1,az.2.2.1,az.2.2.2.1⟩,az.2.2.2.2⟩:aP)) 141,ar jf (nB z) 102] _)),?_⟩)
     refine al rfl (aD rfl) ?_
     refine al rfl (aV (v:= .int .i64 ((cT (cv d) (aw [az.2.1,(⟨kI,zs⟩:Sl Int)]) az.2.2.2.2 (cD (⟨1,z.id,az.2.2.1+1,z.body⟩:eo))).2.1)) rfl rfl) ?_
     refine al rfl (aV (v:= .int .i64 ((cT (cv d) (aw [az.2.1,(⟨kI,zs⟩:Sl Int)]) az.2.2.2.2 (cD (⟨1,z.id,az.2.2.1+1,z.body⟩:eo))).2.2)) rfl rfl) ?_
     refine al rfl (bl rfl) ?_
     refine al rfl (bl rfl) ?_
     refine Gc ?_
     iterate 2 refine Gs ?_
     refine Gc ?_
     refine au rfl (fun h5=> ?_) (fun h5=> ?_)
     ·
      replace h5:=bz h5
      have np:(cT (cv d) (az.2.1.xs++zs) az.2.2.2.2 (gW (⟨cv az.1,az.2.1.xs,az.2.2.1.toNat,az.2.2.2.1⟩:VV) (bo z))).2.2≠0:=by rw[←vr];exact h5
      have sH:(fF (⟨⟨cv xc,xa.xs,xg.toNat,xl⟩,xy⟩:WV) (it.xs.map bo))=((cT (cv d) (az.2.1.xs++zs) az.2.2.2.2 (gW (⟨cv az.1,az.2.1.xs,az.2.2.1.toNat,az.2.2.2.1⟩:VV) (bo z))).1,zs,(cT (cv d) (az.2.1.xs++zs) az.2.2.2.2 (gW (⟨cv az.1,az.2.1.xs,az.2.2.1.toNat,az.2.2.2.1⟩:VV) (bo z))).2.2):=by rw[dz,bA,if_neg jg,if_pos np]
      have hE:(gz (⟨⟨cv xc,xa.xs,xg.toNat,xl⟩,xy⟩:WV) (it.xs.map bo))=((⟨(⟨cv az.1,az.2.1.xs,az.2.2.1.toNat,az.2.2.2.1⟩:VV),az.2.2.2.2⟩:WV).on (cT (cv d) (az.2.1.xs++zs) az.2.2.2.2 (gW (⟨cv az.1,az.2.1.xs,az.2.2.1.toNat,az.2.2.2.1⟩:VV) (bo z))).1,(cT (cv d) (az.2.1.xs++zs) az.2.2.2.2 (gW (⟨cv az.1,az.2.1.xs,az.2.2.1.toNat,az.2.2.2.1⟩:VV) (bo z))).2.2):=by rw[gz,if_neg fa,sH,←zO];exact if_pos np
      refine Gc ?_
      iterate 2 refine Gs ?_
      refine Gc ?_
      refine aq (.inl rfl) (aI rfl (ak rfl)) (fun w1 hw=> ?_)
      exact⟨(GR,az.2.1,az.2.2.1,az.2.2.2.1,az.2.2.2.2),by rw[hE,vr],by rw[hE,GS,vr];rfl,ah.mem hw⟩
     ·
      replace h5:=bz h5
      have np:(cT (cv d) (az.2.1.xs++zs) az.2.2.2.2 (gW (⟨cv az.1,az.2.1.xs,az.2.2.1.toNat,az.2.2.2.1⟩:VV) (bo z))).2.2=0:=by rw[←vr];exact h5
      obtain⟨p1,p2,p3,p4⟩:=KU (fl:=az.2.1.xs++zs) (aE:=az.2.2.2.2) (p:=gW (⟨cv az.1,az.2.1.xs,az.2.2.1.toNat,az.2.2.2.1⟩:VV) (bo z)) iP (by rw[lC.len];omega)
      have p5:=p4 np
      rw[←vr,←GS]at p1 p2
      refine Gc ?_
      iterate 4 refine Gs ?_
      refine ag (bg rfl rfl z.id.toNat (by omega) (by omega)) ?_
      refine kO (s:=kI) (n:=1) (k:=z.id.toNat) (j:=0) (a:=zi) (a':=(cT (cv d) (aw [az.2.1,(⟨kI,zs⟩:Sl Int)]) az.2.2.2.2 (cD (⟨1,z.id,az.2.2.1+1,z.body⟩:eo))).2.1) (xs:=zs) (enc:=bG) (c:=1) (v:= .int .i64 (cT (cv d) (aw [az.2.1,(⟨kI,zs⟩:Sl Int)]) az.2.2.2.2 (cD (⟨1,z.id,az.2.2.1+1,z.body⟩:eo))).2.1) (by kernel_rfl) rfl rfl rfl nP (by simp[Value.cells,Value.oneCell']) rfl (by decide) (by rfl) ?_
      refine Gc ?_
      iterate 2 refine Gs ?_
      refine Gi ?_
      exact bx (x:=(j,d,zs)) (j+1,GR,zs.set z.id.toNat (cT (cv d) (aw [az.2.1,(⟨kI,zs⟩:Sl Int)]) az.2.2.2.2 (cD (⟨1,z.id,az.2.2.1+1,z.body⟩:eo))).2.1) ⟨by simp only;omega,by rw[dz,bA,if_neg jg,if_neg (fun h=>h np),GS,vr],p1,lC.trans p2,fun y hy=>by
                 rw[p2.pages,p2.len]
                 exact(List.mem_or_eq_of_mem_set hy).elim (xG y) fun hy=>hy▸ .inr (by rw[vr];exact p5),by rw[List.length_set];exact GQ⟩ (by simp only;omega) (Sub.cons rfl (Sub.cons rfl (Sub.cons rfl (Sub.cons rfl (Sub.cons rfl (Sub.nil _)))))) (fun w hw=>ah.mem hw)
   ·
    replace h3:=bz h3
    obtain rfl:j=it.xs.length:=by omega
    have sH:(fF (⟨⟨cv xc,xa.xs,xg.toNat,xl⟩,xy⟩:WV) (it.xs.map bo))=(cv d,zs,0):=by rw[dz,←eP,List.drop_length];rfl
    have hE:(gz (⟨⟨cv xc,xa.xs,xg.toNat,xl⟩,xy⟩:WV) (it.xs.map bo))=dI ((⟨(⟨cv az.1,az.2.1.xs,az.2.2.1.toNat,az.2.2.2.1⟩:VV),az.2.2.2.2⟩:WV).on (cv d)) zs:=by rw[gz,if_neg fa,sH,←zO];simp only[ne_eq,not_true_eq_false,if_false]
    have GJ:cO ((⟨(⟨cv az.1,az.2.1.xs,az.2.2.1.toNat,az.2.2.2.1⟩:VV),az.2.2.2.2⟩:WV).on (cv d)):=vq.on iP lC
    refine Gc ?_
    iterate 2 refine Gs ?_
    refine bq rfl GJ fun CP Xm=> ?_
    refine Gs ?_
    refine Gc ?_
    refine aq (.inl rfl) (aI rfl (ak rfl)) (fun w1 hw=> ?_)
    exact⟨(CP.1,CP.2.1,CP.2.2.1,CP.2.2.2,az.2.2.2.2),by rw[hE];rfl,by rw[hE];exact Xm,ah.mem hw⟩
instance ahZ{w0:World}{L R1 R2 L2:List ai}{i0 i1 i2:Nat}{k:Nat}{xc:Cp}{xa:Sl Int}{xg:UInt64}{xl:Int}{xy:Bool}{it:Sl It}[q0:Has L k (aL (⟨⟨xc,xa,xg,xl⟩,xy⟩:aP)) 141 i0][d0:dq L i0 R1][q1:At R1 (fz xc) i1][d1:dq R1 i1 R2][q2:At R2 (fz xa) i2][d2:dq R2 i2 L2][nH:aU w0 L2 it]:cl Tryz.prog 88 w0 L [.pointer (some ⟨k,0,none⟩),it.sv.val] (Cp×Sl Int×UInt64×Int×Bool) (fun zz=> .int .i64 ((gz (⟨⟨cv xc,xa.xs,xg.toNat,xl⟩,xy⟩:WV) (it.xs.map bo)).2)) (fun zz=>ar k (aL (⟨⟨zz.1,zz.2.1,zz.2.2.1,zz.2.2.2.1⟩,zz.2.2.2.2⟩:aP)) 141::fz zz.1::fz zz.2.1::L2) (fun zz=>(⟨⟨cv zz.1,zz.2.1.xs,zz.2.2.1.toNat,zz.2.2.2.1⟩,zz.2.2.2.2⟩:WV)=(gz (⟨⟨cv xc,xa.xs,xg.toNat,xl⟩,xy⟩:WV) (it.xs.map bo)).1) (cO (⟨⟨cv xc,xa.xs,xg.toNat,xl⟩,xy⟩:WV)∧it.xs.length≤1000000∧ ∀x∈it.xs,0≤x.id∧x.id<xa.xs.length∧x.id<64):=⟨fun hp w hw=>Xe w0 w L2 k xc xa xg xl xy it (xm q0.h d0.h q1.h d1.h q2.h d2.h hw) hp⟩
open Go.aC Go.Kb
open Go.RowKit
theorem Xn(w0 w:World)(L:List ai)(k:Nat)(xc:Cp)(xa:Sl Int)(xg:UInt64)(xl:Int)(xy:Bool)(n:Int)(hw:Mem w0 (ar k (aL (⟨⟨xc,xa,xg,xl⟩,xy⟩:aP)) 141::fz xc::fz xa::L) w)(bb:cO (⟨⟨cv xc,xa.xs,xg.toNat,xl⟩,xy⟩:WV)∧0≤n∧n≤64):Calls Tryz.prog 85 #[.pointer (some ⟨k,0,none⟩), .int .i64 n] w fun e w'=> ∃zz:Cp×Sl Int×UInt64×Int,e= .returned (.int .i64 ((pw (⟨⟨cv xc,xa.xs,xg.toNat,xl⟩,xy⟩:WV) n.toNat).2))∧((⟨⟨cv zz.1,zz.2.1.xs,zz.2.2.1.toNat,zz.2.2.2⟩,xy⟩:WV)=(pw (⟨⟨cv xc,xa.xs,xg.toNat,xl⟩,xy⟩:WV) n.toNat).1)∧Mem w0 (ar k (aL (⟨⟨zz.1,zz.2.1,zz.2.2.1,zz.2.2.2⟩,xy⟩:aP)) 141::fz zz.1::fz zz.2.1::L) w':=by
 obtain⟨gm,tP,xi⟩:=bb
 have hk:aT (cv xc)=true:=gm.ae
 have xC:4≤(cv xc).blocks.length:=gm.qo
 have hd:=eF hk
 have dt:(cv xc).blocks.length=xc.blocks.xs.length:=fu _
 refine kl (args:=[_,_]) Tryz.func85 rfl Tryz.ntmps85 rfl hw ?_
 change Cw _ _ _ _ _ [(0, .pointer (some ⟨k,0,none⟩)),(1, .int .i64 n)] (ar k (aL (⟨⟨xc,xa,xg,xl⟩,xy⟩:aP)) 141::fz xc::fz xa::L)
 refine Gc ?_
 refine Gs ?_
 refine Gc ?_
 iterate 5 refine Gs ?_
 refine ag (Ry.to (v':=xc.blocks.sv.val) (bH rfl) rfl) ?_
 iterate 2 refine Gs ?_
 refine Gc ?_
 refine ca (X:=Nat×Cp) (fun zz=>[(18, .int .i64 (zz.1:Nat)),(0, .pointer (some ⟨k,0,none⟩)),(1, .int .i64 n),(17, .int .i64 (xc.blocks.xs.length:Nat))]) (fun zz=>ar k (aL (⟨⟨zz.2,xa,xg,xl⟩,xy⟩:aP)) 141::fz zz.2::fz xa::L) (fun zz=>zz.1≤(cv xc).blocks.length∧(lU (cv xc).blocks.length 0 (cv xc))=lU ((cv xc).blocks.length -zz.1) (zz.1:Int) (cv zz.2)∧aT (cv zz.2)=true∧dw (cv xc) (cv zz.2)) (fun zz=>(cv xc).blocks.length -zz.1) (0,xc) ⟨Nat.zero_le _,rfl,hk, .cX _⟩ (Sub.cons rfl (Sub.cons rfl (Sub.cons rfl (Sub.cons rfl (Sub.nil _))))) (fun w hw=>ah.mem hw) ?_
 rintro⟨i,d⟩ ⟨bh,aF,bt,cS⟩
 dsimp only
 simp only at bh aF bt cS
 have CI:=cS.len
 have ib:(⟨i,d⟩:Nat×Cp)=(i,d):=rfl
 refine Gc ?_
 refine Gs ?_
 refine Gc ?_
 refine au rfl (fun h0=> ?_) (fun h0=> ?_)
 ·
  replace h0:=bz h0
  have bA:lU ((cv xc).blocks.length -i) (i:Int) (cv d)=(if wP (cv d) i=false then lU ((cv xc).blocks.length -(i+1)) ((i:Int)+1) (cv d)else if dF (cv d) i≠0∧dF (cv d) i≠9 then(da (cv d) i,dF (cv d) i)else lU ((cv xc).blocks.length -(i+1)) ((i:Int)+1) (da (cv d) i)):=by
   rw[show(cv xc).blocks.length -i=((cv xc).blocks.length -(i+1))+1 by omega,lU]
  refine Gc ?_
  iterate 2 refine Gs ?_
  refine Gc ?_
  iterate 2 refine Gs ?_
  refine fy (cC rfl ⟨bt,by omega,by omega⟩) ?_
  refine Gs ?_
  refine Gc ?_
  refine au rfl (fun h1=> ?_) (fun h1=> ?_)
  ·
   replace h1:=bz h1
   refine Gc ?_
   iterate 2 refine Gs ?_
   refine Gi ?_
   exact bx (x:=(i,d)) (i+1,d) ⟨by simp only;omega,by rw[aF,bA,if_pos h1];rfl,bt,cS⟩ (by simp only;omega) (Sub.cons rfl (Sub.cons rfl (Sub.cons rfl (Sub.cons rfl (Sub.nil _))))) (fun w hw=>ah.mem hw)
  ·
   replace h1:=bz h1
   have ez: ¬wP (cv d) i=false:=by rw[h1];simp
   refine Gc ?_
   iterate 2 refine Gs ?_
   refine bq rfl ⟨bt,by omega,by omega⟩ fun pH rD=> ?_
   refine Gs ?_
   refine Gc ?_
   iterate 3 refine Gs ?_
   iterate 2 refine Gg ?_
   refine Gs ?_
   refine Gc ?_
   refine au rfl (fun h2=> ?_) (fun h2=> ?_)
   ·
    replace h2:=bz h2
    have hE:(pw (⟨⟨cv xc,xa.xs,xg.toNat,xl⟩,xy⟩:WV) n.toNat)=((⟨⟨cv xc,xa.xs,xg.toNat,xl⟩,xy⟩:WV).on (da (cv d) i),dF (cv d) i):=by
     have hz:(lU (cv xc).blocks.length 0 (cv xc))=(da (cv d) i,dF (cv d) i):=by rw[aF,bA,if_neg ez,if_pos h2]
     rw[pw,if_pos (show(lU (cv xc).blocks.length 0 (cv xc)).2≠0 by rw[hz];exact h2.1),hz]
    refine Gc ?_
    iterate 2 refine Gs ?_
    refine Gc ?_
    refine aq (.inl rfl) (aI rfl (ak rfl)) (fun w1 hw=> ?_)
    exact⟨(pH,xa,xg,xl),by rw[hE],by rw[hE,rD];rfl,ah.mem hw⟩
   ·
    replace h2:=bz h2
    have fa:dF (cv d) i≠0→dF (cv d) i≠9→False:=fun ga gb=>by omega
    refine Gc ?_
    iterate 2 refine Gs ?_
    refine Gi ?_
    exact bx (x:=(i,d)) (i+1,pH) ⟨by simp only;omega,by rw[aF,bA,if_neg ez,if_neg (fun h=>fa h.1 h.2),rD];rfl,by rw[rD];exact za bt _,by rw[rD];exact cS.trans (tr _ _)⟩ (by simp only;omega) (Sub.cons rfl (Sub.cons rfl (Sub.cons rfl (Sub.cons rfl (Sub.nil _))))) (fun w hw=>ah.mem hw)
 ·
  replace h0:=bz h0
  obtain rfl:i=(cv xc).blocks.length:=by omega
  have hz:(lU (cv xc).blocks.length 0 (cv xc))=(cv d,0):=by rw[aF,Nat.sub_self];rfl
  refine Gc ?_
  refine Gs ?_
  refine Gc ?_
  refine ca (X:=Nat×Cp) (fun zz=>[(36, .int .i64 (zz.1:Nat)),(0, .pointer (some ⟨k,0,none⟩)),(1, .int .i64 n)]) (fun zz=>ar k (aL (⟨⟨zz.2,xa,xg,xl⟩,xy⟩:aP)) 141::fz zz.2::fz xa::L) (fun zz=>zz.1≤2∧(pw (⟨⟨cv xc,xa.xs,xg.toNat,xl⟩,xy⟩:WV) n.toNat)=tv (2 -zz.1) (zz.1:Int) ((⟨⟨cv xc,xa.xs,xg.toNat,xl⟩,xy⟩:WV).on (cv zz.2)) n.toNat∧aT (cv zz.2)=true∧dw (cv xc) (cv zz.2)) (fun zz=>2 -zz.1) (0,d) ⟨Nat.zero_le _,by rw[pw,if_neg (show ¬(lU (cv xc).blocks.length 0 (cv xc)).2≠0 by rw[hz];simp),show(lU (cv xc).blocks.length 0 (cv xc)).1=cv d by rw[hz]];rfl,bt,cS⟩ (Sub.cons rfl (Sub.cons rfl (Sub.cons rfl (Sub.nil _)))) (fun w hw=>ah.mem hw) ?_
  rintro⟨j,e⟩ ⟨ic,dz,iP,lC⟩
  dsimp only
  simp only at ic dz iP lC
  have CI:=lC.len
  have vi:=Fb (aj (cv e) (1 -(j:Int))).pages
  change j8 (cv e) (1 -(j:Int))<_ at vi
  have ei:fL (cv e) j<281474976710656+2∨ ¬j<2:=by
   by_cases Xo:j<2
   ·
    left;rw[fL];omega
   ·
    exact .inr Xo
  refine Gc ?_
  refine Gs ?_
  refine Gc ?_
  refine au rfl (fun h3=> ?_) (fun h3=> ?_)
  ·
   replace h3:=bz h3
   have ah0:fL (cv e) j<281474976710656+2:=ei.resolve_right (fun h=>h (by omega))
   have GU:(UInt64.ofNat (fL (cv e) j)).toNat=fL (cv e) j:=by rw[UInt64.toNat_ofNat'];omega
   refine Gc ?_
   iterate 2 refine Gs ?_
   refine Gc ?_
   refine qa [4,6,7,2004,2006] [[],[],[],[],[],[4],[],[4,6]] [0,1,2,3,4,5,6,7] [ar k (aL (⟨⟨e,xa,xg,xl⟩,xy⟩:aP)) 141,fz e] [(4,qY bG 1 n.toNat (List.replicate n.toNat 0)),(6,kR Tryz.prog 147)] (by kernel_rfl) (fun _ hw=>ah.mem hw) (by kernel_rfl) (by kernel_rfl) ?_
   refine al rfl (aD rfl) ?_
   refine al rfl (aD rfl) ?_
   refine uP rfl (cC rfl ⟨iP,by omega,by omega⟩) ?_
   refine al rfl (aD rfl) ?_
   refine oy (m:=qY bG 1 n.toNat (List.replicate n.toNat 0)) rfl rfl (Vj (enc:=bG) (c:=1) (n:=n.toNat) 0 rfl rfl rfl (by omega) (by omega) (by omega) (by omega)) (Cert.one (i:=6) rfl rfl rfl jX (Cert.none rfl)) fun jD=> ?_
   change Ln _ _ _ _ _ _ _ _ (cw _ _ (Sv.val ⟨false,jD,0,n.toNat,n.toNat,none⟩)) (own bG 1 ⟨false,jD,0,n.toNat,n.toNat,none⟩ (List.replicate n.toNat 0)::_) _
   refine al rfl (cR (v:= .agg (dB (⟨UInt64.ofNat (fL (cv e) j),⟨⟨false,jD,0,n.toNat,n.toNat,none⟩,(List.replicate n.toNat 0)⟩⟩:dd))) rfl (by rw[show(.int .u64 ((fL (cv e) j:Nat):Int):Value)= .int .u64 ((UInt64.ofNat (fL (cv e) j)).toNat:Int) by rw[GU]];exact MC _ _ _)) ?_
   refine oy (m:=kR Tryz.prog 147) rfl rfl jX (Cert.none rfl) fun b8=> ?_
   change Ln _ _ _ _ _ _ _ _ (cw _ _ (.pointer (some ⟨b8,0,none⟩))) (ar b8 (dB kT) 147::_) _
   refine dE rfl (ox rfl rfl ⟨fun _ hw=>ah.mem hw,?_⟩)
   iterate 3 refine Gi ?_
   have xD:df (⟨UInt64.ofNat (fL (cv e) j),⟨⟨false,jD,0,n.toNat,n.toNat,none⟩,(List.replicate n.toNat 0)⟩⟩:dd)=⟨fL (cv e) j,(List.replicate n.toNat 0)⟩:=by simp only[df,GU]
   have Xp:nh (cv e) j n.toNat=(cN (df (⟨UInt64.ofNat (fL (cv e) j),⟨⟨false,jD,0,n.toNat,n.toNat,none⟩,(List.replicate n.toNat 0)⟩⟩:dd)) e.size):=by rw[xD];rfl
   have Xq:2 -j=(2 -(j+1))+1:=by omega
   have bA:(tv (2 -j) (j:Int) ((⟨⟨cv xc,xa.xs,xg.toNat,xl⟩,xy⟩:WV).on (cv e)) n.toNat)=(if(nh (cv e) j n.toNat).2≠0∨dG (cv e) j=0 then tv (2 -(j+1)) ((j:Int)+1) ((⟨⟨cv xc,xa.xs,xg.toNat,xl⟩,xy⟩:WV).on (cv e)) n.toNat else if(bC (cv e) j (nh (cv e) j n.toNat).1)=0 then((⟨BY (bD (cv e) j (nh (cv e) j n.toNat).1) j n.toNat (fL (cv e) j),xy⟩:WV),(0:Int))else if(bC (cv e) j (nh (cv e) j n.toNat).1)≠9 then((⟨⟨cv xc,xa.xs,xg.toNat,xl⟩,xy⟩:WV).on (bD (cv e) j (nh (cv e) j n.toNat).1),(bC (cv e) j (nh (cv e) j n.toNat).1))else tv (2 -(j+1)) ((j:Int)+1) ((⟨⟨cv xc,xa.xs,xg.toNat,xl⟩,xy⟩:WV).on (bD (cv e) j (nh (cv e) j n.toNat).1)) n.toNat):=by
    rw[Xq,tv]
    rfl
   rw[Xp]at bA
   refine jn [7] [[],[],[],[],[],[],[],[],[7],[7],[7],[7],[7]] [0,1,2,3,4,5,6,7,8,9,10,11,12] [ar k (aL (⟨⟨e,xa,xg,xl⟩,xy⟩:aP)) 141,fz e,ar b8 (dB (⟨UInt64.ofNat (fL (cv e) j),⟨⟨false,jD,0,n.toNat,n.toNat,none⟩,(List.replicate n.toNat 0)⟩⟩:dd)) 147] (fun _ hw=>ah.mem hw) (by kernel_rfl) (by kernel_rfl) ?_
   refine al rfl (fI rfl) ?_
   refine al rfl (aD rfl) ?_
   refine al rfl (jG rfl) ?_
   refine al rfl (aH (o':=0) rfl rfl) ?_
   refine al rfl (aH (o':=0) rfl rfl) ?_
   refine al rfl (aH (o':=1) rfl rfl) ?_
   refine al rfl (Ry.to (v':= .int .i64 e.size) (bH rfl) rfl) ?_
   refine dE rfl (nG rfl trivial fun Xr ah1=>⟨fun _ hw=>ah.mem hw,?_⟩)
   refine al rfl (aD rfl) ?_
   refine al rfl (aV (v:=Xr.val) rfl rfl) ?_
   refine al rfl (aV (v:= .int .i64 ((cN (df (⟨UInt64.ofNat (fL (cv e) j),⟨⟨false,jD,0,n.toNat,n.toNat,none⟩,(List.replicate n.toNat 0)⟩⟩:dd)) e.size).2)) rfl rfl) ?_
   refine al rfl (bl rfl) ?_
   refine al rfl (bl rfl) ?_
   refine Gc ?_
   iterate 3 refine Gs ?_
   iterate 2 refine Gg ?_
   refine bZ rfl rfl rfl (fun hg=>cC (dA (aG hg rfl) (dA (aG hg rfl) gE)) ⟨iP,by omega,by omega⟩) ?_
   refine Gg ?_
   refine Gs ?_
   refine Gc ?_
   refine au rfl (fun h4=> ?_) (fun h4=> ?_)
   ·
    replace h4:=bz h4
    have jg:(cN (df (⟨UInt64.ofNat (fL (cv e) j),⟨⟨false,jD,0,n.toNat,n.toNat,none⟩,(List.replicate n.toNat 0)⟩⟩:dd)) e.size).2≠0∨dG (cv e) j=0:=h4
    refine Gc ?_
    iterate 2 refine Gs ?_
    refine Gi ?_
    exact bx (x:=(j,e)) (j+1,e) ⟨by simp only;omega,by rw[dz,bA,if_pos jg];rfl,iP,lC⟩ (by simp only;omega) (Sub.cons rfl (Sub.cons rfl (Sub.cons rfl (Sub.nil _)))) (fun w hw=>ah.mem hw)
   ·
    replace h4:=bz h4
    have jg: ¬((cN (df (⟨UInt64.ofNat (fL (cv e) j),⟨⟨false,jD,0,n.toNat,n.toNat,none⟩,(List.replicate n.toNat 0)⟩⟩:dd)) e.size).2≠0∨dG (cv e) j=0):=fun h=>h.elim (fun g=>g h4.1) h4.2
    refine Gc ?_
    iterate 3 refine Gs ?_
    refine bq rfl ⟨iP,by omega,by omega⟩ fun mI xH=> ?_
    refine Gs ?_
    refine Gc ?_
    iterate 2 refine Gs ?_
    refine Gc ?_
    refine au rfl (fun h5=> ?_) (fun h5=> ?_)
    ·
     replace h5:=bz h5
     have np:(bC (cv e) j (cN (df (⟨UInt64.ofNat (fL (cv e) j),⟨⟨false,jD,0,n.toNat,n.toNat,none⟩,(List.replicate n.toNat 0)⟩⟩:dd)) e.size).1)=0:=h5
     have hE:(pw (⟨⟨cv xc,xa.xs,xg.toNat,xl⟩,xy⟩:WV) n.toNat)=((⟨BY (bD (cv e) j (cN (df (⟨UInt64.ofNat (fL (cv e) j),⟨⟨false,jD,0,n.toNat,n.toNat,none⟩,(List.replicate n.toNat 0)⟩⟩:dd)) e.size).1) j n.toNat (fL (cv e) j),xy⟩:WV),0):=by rw[dz,bA,if_neg jg,if_pos np]
     refine Gi ?_
     refine jn [11,15,19,1003,1004,1009,1010,1013,1014,1017,1018] [[],[],[],[],[3],[],[],[],[3,4],[3,4],[3,4,9],[3,4,9,10],[3,4,9,10,11],[3,4,9,10,11],[3,4,9,10,11,13],[3,4,9,10,11,13,14],[3,4,9,10,11,13,14,15],[3,4,9,10,11,13,14,15],[3,4,9,10,11,13,14,15,17],[3,4,9,10,11,13,14,15,17,18]] [0,1,2,3,4,5,6,7,8,9,10,11,12,13,14,15,16,17,18,19] [ar b8 (dB (⟨UInt64.ofNat (fL (cv e) j),⟨⟨false,jD,0,n.toNat,n.toNat,none⟩,(List.replicate n.toNat 0)⟩⟩:dd)) 147] (fun _ hw=>ah.mem hw) (by kernel_rfl) (by kernel_rfl) ?_
     refine al rfl (aD rfl) ?_
     refine al rfl (aD rfl) ?_
     refine al rfl (aD rfl) ?_
     refine kr rfl (aH (o':=1) rfl rfl) ?_
     refine kr rfl (bH rfl) ?_
     refine al rfl (aH (o':=0) rfl rfl) ?_
     refine al rfl (bH rfl) ?_
     refine al rfl (aD rfl) ?_
     refine al rfl (jG rfl) ?_
     refine kr rfl (aH (o':=0) rfl rfl) ?_
     refine kr rfl (aH (o':=6) rfl rfl) ?_
     refine dE rfl (wk (cs':=aL (⟨⟨mI,⟨⟨false,jD,0,n.toNat,n.toNat,none⟩,(List.replicate n.toNat 0)⟩,xg,xl⟩,xy⟩:aP)) rfl rfl (by show 6<10;decide) (by first|rfl|exact Sv.one _) rfl ⟨fun _ hw=>ah.mem hw,?_⟩)
     refine al rfl (jG rfl) ?_
     refine kr rfl (aH (o':=0) rfl rfl) ?_
     refine kr rfl (aH (o':=7) rfl rfl) ?_
     refine dE rfl (wk (cs':=aL (⟨⟨mI,⟨⟨false,jD,0,n.toNat,n.toNat,none⟩,(List.replicate n.toNat 0)⟩,(UInt64.ofNat (fL (cv e) j)),xl⟩,xy⟩:aP)) rfl rfl (by show 7<10;decide) (by first|rfl|exact Sv.one _) rfl ⟨fun _ hw=>ah.mem hw,?_⟩)
     refine al rfl (jG rfl) ?_
     refine kr rfl (aH (o':=0) rfl rfl) ?_
     refine kr rfl (aH (o':=8) rfl rfl) ?_
     refine dE rfl (wk (cs':=aL (⟨⟨mI,⟨⟨false,jD,0,n.toNat,n.toNat,none⟩,(List.replicate n.toNat 0)⟩,(UInt64.ofNat (fL (cv e) j)),((j:Nat):Int)⟩,xy⟩:aP)) rfl rfl (by show 8<10;decide) (by first|rfl|exact Sv.one _) rfl ⟨fun _ hw=>ah.mem hw,?_⟩)
     refine Gc ?_
     refine Gs ?_
     refine Gc ?_
     refine aq (.inl rfl) (aI rfl (ak rfl)) (fun w1 hw=> ?_)
     exact⟨(mI,⟨⟨false,jD,0,n.toNat,n.toNat,none⟩,(List.replicate n.toNat 0)⟩,UInt64.ofNat (fL (cv e) j),(j:Int)),by rw[hE],by rw[hE,xH,BY];simp only[GU],ah.mem (uS (a:=⟨⟨false,jD,0,n.toNat,n.toNat,none⟩,(List.replicate n.toNat 0)⟩) (ah.mem hw:Mem w0 (own bG 1 ⟨false,jD,0,n.toNat,n.toNat,none⟩ (List.replicate n.toNat 0)::ar k (aL (⟨⟨mI,⟨⟨false,jD,0,n.toNat,n.toNat,none⟩,(List.replicate n.toNat 0)⟩,(UInt64.ofNat (fL (cv e) j)),(j:Int)⟩,xy⟩:aP)) 141::fz mI::L) _))⟩
    ·
     replace h5:=bz h5
     have np: ¬(bC (cv e) j (cN (df (⟨UInt64.ofNat (fL (cv e) j),⟨⟨false,jD,0,n.toNat,n.toNat,none⟩,(List.replicate n.toNat 0)⟩⟩:dd)) e.size).1)=0:=h5
     refine Gc ?_
     iterate 2 refine Gs ?_
     refine Gc ?_
     refine au rfl (fun h6=> ?_) (fun h6=> ?_)
     ·
      replace h6:=bz h6
      have hE:(pw (⟨⟨cv xc,xa.xs,xg.toNat,xl⟩,xy⟩:WV) n.toNat)=((⟨⟨cv xc,xa.xs,xg.toNat,xl⟩,xy⟩:WV).on (bD (cv e) j (cN (df (⟨UInt64.ofNat (fL (cv e) j),⟨⟨false,jD,0,n.toNat,n.toNat,none⟩,(List.replicate n.toNat 0)⟩⟩:dd)) e.size).1),(bC (cv e) j (cN (df (⟨UInt64.ofNat (fL (cv e) j),⟨⟨false,jD,0,n.toNat,n.toNat,none⟩,(List.replicate n.toNat 0)⟩⟩:dd)) e.size).1)):=by rw[dz,bA,if_neg jg,if_neg np,if_pos (show(bC (cv e) j (cN (df (⟨UInt64.ofNat (fL (cv e) j),⟨⟨false,jD,0,n.toNat,n.toNat,none⟩,(List.replicate n.toNat 0)⟩⟩:dd)) e.size).1)≠9 from h6)]
      refine Gc ?_
      iterate 2 refine Gs ?_
      refine Gc ?_
      refine aq (.inl rfl) (aI rfl (ak rfl)) (fun w1 hw=> ?_)
      exact⟨(mI,xa,xg,xl),by rw[hE],by rw[hE,xH];rfl,ah.mem hw⟩
     ·
      replace h6:=bz h6
      refine Gc ?_
      iterate 2 refine Gs ?_
      refine Gi ?_
      exact bx (x:=(j,e)) (j+1,mI) ⟨by simp only;omega,by rw[dz,bA,if_neg jg,if_neg np,if_neg (fun h=>h h6),xH];rfl,by rw[xH];exact kz iP _ _,by rw[xH];exact lC.trans (gU _ _ _)⟩ (by simp only;omega) (Sub.cons rfl (Sub.cons rfl (Sub.cons rfl (Sub.nil _)))) (fun w hw=>ah.mem hw)
  ·
   replace h3:=bz h3
   obtain rfl:j=2:=by omega
   have hE:(pw (⟨⟨cv xc,xa.xs,xg.toNat,xl⟩,xy⟩:WV) n.toNat)=((⟨⟨cv xc,xa.xs,xg.toNat,xl⟩,xy⟩:WV).on (cv e),9):=by rw[dz];rfl
   refine Gc ?_
   refine Gs ?_
   refine Gc ?_
   refine aq (.inl rfl) (aI rfl (ak rfl)) (fun w1 hw=> ?_)
   exact⟨(e,xa,xg,xl),by rw[hE],by rw[hE];rfl,ah.mem hw⟩
instance ah2{w0:World}{L R1 R2 L2:List ai}{i0 i1 i2:Nat}{k:Nat}{xc:Cp}{xa:Sl Int}{xg:UInt64}{xl:Int}{xy:Bool}{n:Int}[q0:Has L k (aL (⟨⟨xc,xa,xg,xl⟩,xy⟩:aP)) 141 i0][d0:dq L i0 R1][q1:At R1 (fz xc) i1][d1:dq R1 i1 R2][q2:At R2 (fz xa) i2][d2:dq R2 i2 L2]:cl Tryz.prog 85 w0 L [.pointer (some ⟨k,0,none⟩), .int .i64 n] (Cp×Sl Int×UInt64×Int) (fun zz=> .int .i64 ((pw (⟨⟨cv xc,xa.xs,xg.toNat,xl⟩,xy⟩:WV) n.toNat).2)) (fun zz=>ar k (aL (⟨⟨zz.1,zz.2.1,zz.2.2.1,zz.2.2.2⟩,xy⟩:aP)) 141::fz zz.1::fz zz.2.1::L2) (fun zz=>(⟨⟨cv zz.1,zz.2.1.xs,zz.2.2.1.toNat,zz.2.2.2⟩,xy⟩:WV)=(pw (⟨⟨cv xc,xa.xs,xg.toNat,xl⟩,xy⟩:WV) n.toNat).1) (cO (⟨⟨cv xc,xa.xs,xg.toNat,xl⟩,xy⟩:WV)∧0≤n∧n≤64):=⟨fun hp w hw=>Xn w0 w L2 k xc xa xg xl xy n (xm q0.h d0.h q1.h d1.h q2.h d2.h hw) hp⟩
open Go.aC Go.Kb
open Go.RowKit
theorem Xs(w:World)(b:Int)(p:Int):Calls Tryz.prog 42 #[.int .i64 b, .int .i64 p] w fun e w'=>e= .returned (.int .i64 (qu b p))∧Mem w [] w':=by
 refine ba (args:=[_,_]) Tryz.func42 rfl Tryz.ntmps42 rfl ?_
 change Cw _ _ _ _ _ [(0, .int .i64 b),(1, .int .i64 p)] []
 refine Gc ?_
 refine Gs ?_
 refine Gc ?_
 iterate 3 refine Gs ?_
 iterate 2 refine Gg ?_
 iterate 2 refine Gs ?_
 iterate 2 refine Gg ?_
 iterate 2 refine Gs ?_
 iterate 2 refine Gg ?_
 refine Gs ?_
 refine Gc ?_
 refine au rfl (fun h0=> ?_) (fun h0=> ?_)
 ·
  replace h0:=bz h0
  have hE:qu b p=0:=if_pos (by omega)
  refine Gc ?_
  refine Gs ?_
  refine Gc ?_
  refine aq (.inl rfl) (aI rfl (ak rfl)) (fun w1 hw=> ?_)
  exact⟨congrArg (fun b=>Ending.returned (Value.int .i64 b)) (hE.symm),ah.mem hw⟩
 ·
  replace h0:=bz h0
  have hE:qu b p=(b -4)*p:=if_neg (by omega)
  have mD:0≤(b -4)*p:=Int.mul_nonneg (by omega) (by omega)
  have nR:(b -4)*p≤28*16:=Int.mul_le_mul (by omega) (by omega) (by omega) (by omega)
  refine Gc ?_
  iterate 3 refine Gs ?_
  refine ag (ur rfl rfl (by omega)) ?_
  refine Gs ?_
  refine Gc ?_
  refine aq (.inl rfl) (aI rfl (ak rfl)) (fun w1 hw=> ?_)
  exact⟨congrArg (fun b=>Ending.returned (Value.int .i64 b)) (hE.symm),ah.mem hw⟩
instance ah3{w0:World}{L:List ai}{b:Int}{p:Int}:cB Tryz.prog 42 w0 L [.int .i64 b, .int .i64 p] (.int .i64 (qu b p)) (True):=⟨fun hp w hw=>Xs w b p⟩
theorem Xt(w:World)(v:bM)(it:Sl It)(hv:Deep.aY (hp w) v)(nH:Deep.aY (hp w) it):Calls Tryz.prog 86 #[.agg (bF v),it.sv.val] w fun e w'=>e= .returned (.bool (py (vv v) (it.xs.map bo)))∧Mem w [] w':=by
 have zu:cg w v:=⟨hv⟩
 have Xu:cg w it:=⟨nH⟩
 have iJ:=nH.1.bd
 have CQ:=hv.2.1.bd
 have eP:(it.xs.map bo).length=it.xs.length:=List.length_map _
 refine ba (args:=[_,_]) Tryz.func86 rfl Tryz.ntmps86 rfl ?_
 change Cw _ _ _ _ _ [(0, .agg (bF v)),(1,it.sv.val)] []
 refine Gc ?_
 refine bX rfl fun b2=> ?_
 refine Gs ?_
 refine Gc ?_
 refine L6 mE oL fun xt=> ?_
 refine Gs ?_
 refine Gc ?_
 iterate 3 refine Gs ?_
 refine Gc ?_
 refine ca (X:=Nat) (fun zz=>[(13, .int .i64 (zz:Nat)),(5, .map (some xt)),(2, .pointer (some ⟨b2,0,none⟩)),(11,it.sv.val),(12, .int .i64 (it.xs.length:Nat))]) (fun zz=>[omap Tryz.prog 3 mE oL xt (ru ((it.xs.map bo).map Prod.fst) zz),ar b2 (bF v) 29]) (fun zz=>zz≤it.xs.length∧ ∀j,j<zz→rr (vv v) (it.xs.map bo) j=true) (fun zz=>it.xs.length -zz) 0 ⟨Nat.zero_le _,fun j hj=>by first|omega|(simp only[];omega)⟩ (Sub.cons rfl (Sub.cons rfl (Sub.cons rfl (Sub.cons rfl (Sub.cons rfl (Sub.nil _)))))) (fun w hw=>by
  rw[←Ti];exact ah.mem hw) ?_
 rintro i ⟨bh,aF⟩
 refine Gc ?_
 refine Gs ?_
 refine Gc ?_
 refine au rfl (fun h0=> ?_) (fun h0=> ?_)
 ·
  replace h0:=bz h0
  obtain⟨z,hz⟩:=get_some (xs:=it.xs) (i:=i) (by omega)
  have tI:Mb z it:=⟨List.mem_of_getElem? hz⟩
  have tX:(it.xs.map bo)[i]? =Option.some (bo z):=by rw[List.getElem?_map,hz];rfl
  have vp:(it.xs.map bo).getD i (0,[])=bo z:=by simp[List.getD,tX]
  have Xv:((it.xs.map bo).map Prod.fst)[i]? =Option.some z.id:=by rw[List.getElem?_map,tX];rfl
  have yN:(rr (vv v) (it.xs.map bo) i)=(rp (vv v) (bo z)&& !(((it.xs.map bo).map Prod.fst).take i).contains z.id):=by rw[rr,vp,List.map_take];rfl
  have je:(rr (vv v) (it.xs.map bo) i)=false→py (vv v) (it.xs.map bo)=false:=fun h=>by
   cases rA:py (vv v) (it.xs.map bo)with
   |false=>rfl
   |true=>have:=zj.1 rA i (by omega);rw[h]at this;cases this
  have jl:rp (vv v) (bo z)=true↔0≤z.id∧z.id<v.at_.xs.length∧(z.body.xs.length:Int)≤dv v.ae.size:=by
   rw[rp,Bool.and_eq_true,Bool.and_eq_true,decide_eq_true_eq,decide_eq_true_eq,decide_eq_true_eq,and_assoc];rfl
  refine Gc ?_
  refine ag (bg rfl rfl i rfl (by omega)) ?_
  refine ag (gG rfl i hz rfl) ?_
  have V7:Mb z it:=⟨List.mem_of_getElem? hz⟩
  refine bK fun b7=> ?_
  refine Gs ?_
  refine Gc ?_
  refine gO (by kernel_rfl) (by kernel_rfl) ?_
  iterate 4 refine Gq ?_
  iterate 6 refine Gh ?_
  iterate 2 refine Gq ?_
  iterate 4 refine Gh ?_
  refine iH rfl rfl rfl (fun hg=>(Ry.yl (aH (o':=1) (aG hg rfl) rfl))) ?_
  refine Gh ?_
  refine iH rfl rfl rfl (fun hg=>cC (dA (aG hg rfl) gE) trivial) ?_
  refine Gh ?_
  refine Gq ?_
  refine Gc ?_
  refine au rfl (fun h1=> ?_) (fun h1=> ?_)
  ·
   replace h1:=bz h1
   have hE:py (vv v) (it.xs.map bo)=false:=je (by
    have: ¬rp (vv v) (bo z)=true:=fun h=>by have:=jl.1 h;omega
    rw[yN,show rp (vv v) (bo z)=false by simpa using this];rfl)
   refine Gc ?_
   refine Gs ?_
   refine Gc ?_
   refine aq (.inl rfl) (aI rfl (ak rfl)) (fun w1 hw=> ?_)
   exact⟨congrArg (fun b=>Ending.returned (Value.bool b)) (hE.symm),ah.mem hw⟩
  ·
   replace h1:=bz h1
   have lL:rp (vv v) (bo z)=true:=jl.2 ⟨by omega,by omega,by omega⟩
   have tN:=Gd (n:=z.id) (by omega)
   refine Gc ?_
   iterate 3 refine Gs ?_
   refine ag (FX (cZ:=mE) (dW:=oL) (f:=ru ((it.xs.map bo).map Prod.fst) i) (v:=z.id) (z:=()) rfl rfl tN) ?_
   refine Gs ?_
   refine ag (aV (v:= .agg #[]) rfl rfl) ?_
   refine ag (aV (v:= .bool ((ru ((it.xs.map bo).map Prod.fst) i z.id).isSome)) rfl rfl) ?_
   refine bK fun b8=> ?_
   iterate 2 refine Gs ?_
   refine Gc ?_
   refine Gs ?_
   refine Gc ?_
   refine au rfl (fun h2=> ?_) (fun h2=> ?_)
   ·
    replace h2:=bz h2
    have hE:py (vv v) (it.xs.map bo)=false:=je (by
     rw[K7]at h2
     rw[yN,lL,List.contains_eq_mem,h2];rfl)
    refine Gc ?_
    refine Gs ?_
    refine Gc ?_
    refine aq (.inl rfl) (aI rfl (ak rfl)) (fun w1 hw=> ?_)
    exact⟨congrArg (fun b=>Ending.returned (Value.bool b)) (hE.symm),ah.mem hw⟩
   ·
    replace h2:=bz h2
    have bP:(rr (vv v) (it.xs.map bo) i)=true:=by
     rw[K7]at h2
     rw[yN,lL,List.contains_eq_mem,h2];rfl
    have eM:=Tj Xv
    refine Gc ?_
    iterate 3 refine Gs ?_
    refine ag (cR (v:= .agg #[]) rfl (fun w=>by kernel_rfl)) ?_
    refine FY (cZ:=mE) (dW:=oL) (v:=z.id) (u:=()) rfl rfl rfl tN ?_
    refine Gc ?_
    iterate 2 refine Gs ?_
    refine Gi ?_
    exact bx (x:=(i)) (i+1) ⟨by first|omega|(simp only[];omega),fun j hj=>if e:j=i then e▸bP else aF j (by first|omega|(simp only[];omega))⟩ (by first|omega|(simp only[];omega)) (Sub.cons rfl (Sub.cons rfl (Sub.cons rfl (Sub.cons rfl (Sub.cons rfl (Sub.nil _)))))) (fun w hw=>by
     rw[←eM];exact ah.mem hw)
 ·
  replace h0:=bz h0
  obtain rfl:i=it.xs.length:=by omega
  have hE:py (vv v) (it.xs.map bo)=true:=zj.2 fun j hj=>aF j (by omega)
  refine Gc ?_
  refine Gs ?_
  refine Gc ?_
  refine aq (.inl rfl) (aI rfl (ak rfl)) (fun w1 hw=> ?_)
  exact⟨congrArg (fun b=>Ending.returned (Value.bool b)) (hE.symm),ah.mem hw⟩
instance ah4{w0:World}{L:List ai}{v:bM}{it:Sl It}[hv:aU w0 L v][nH:aU w0 L it]:cB Tryz.prog 86 w0 L [.agg (bF v),it.sv.val] (.bool (py (vv v) (it.xs.map bo))) (True):=⟨fun hp w hw=>Xt w v it (hv.h w hw) (nH.h w hw)⟩
theorem MH(v:bM)(w:World):(Instr.build 141 #[(0, .agg (bF v))]).run Tryz.prog w= .ok (.agg (aL ⟨v,false⟩)) w:=by
 obtain⟨⟨a1,a2,⟨a3,a4⟩,a5,a6,⟨a7,a8⟩⟩,⟨s,xs⟩,g,l⟩:=v
 unfold bF aL
 obtain⟨e,b,o,l,c,p⟩:=s
 obtain⟨e3,b3,o3,l3,c3,p3⟩:=a3
 obtain⟨e7,b7,o7,l7,c7,p7⟩:=a7
 cases e<;>cases e3<;>cases e7<;>kernel_rfl
theorem zP(c:Cp)(w:World):(Instr.build 29 #[(0, .agg (aB c))]).run Tryz.prog w= .ok (.agg (bF ⟨c,⟨Sv.none,[]⟩,0,0⟩)) w:=by
 obtain⟨a1,a2,⟨a3,a4⟩,a5,a6,⟨a7,a8⟩⟩:=c
 unfold bF aB
 obtain⟨e3,b3,o3,l3,c3,p3⟩:=a3
 obtain⟨e7,b7,o7,l7,c7,p7⟩:=a7
 cases e3<;>cases e7<;>kernel_rfl
theorem zQ{w0 w:World}{L:List ai}(h:Mem w0 L w):Mem w0 (fz (⟨Sv.none,[]⟩:Sl Int)::L) w:=uS (a:=⟨Sv.none,[]⟩) (Mem.dP bG 1 h)
theorem MI{w0 w:World}{c:Cp}{a:Sl Int}(h:Mem w0 [fz c,own bG 1 a.sv a.xs] w):Mem w0 [fz c,fz a] w:=ah.mem (uS (ah.mem h:Mem w0 [own bG 1 a.sv a.xs,fz c] w))
theorem Xw(w:World)(v:bM)(it:Sl It)(hv:Deep.aY (hp w) v)(nH:Deep.aY (hp w) it)(bb:dQ v.ae∧v.at_.xs.length≤1000000∧it.xs.length≤1000000):Calls Tryz.prog 41 #[.agg (bF v),it.sv.val] w fun e w'=> ∃zz:Cp×Sl Int×UInt64×Int,e= .returned (.tuple #[.agg (bF (⟨zz.1,zz.2.1,zz.2.2.1,zz.2.2.2⟩:bM)), .int .i64 ((fo (vv v) (it.xs.map bo)).2)])∧((⟨cv zz.1,zz.2.1.xs,zz.2.2.1.toNat,zz.2.2.2⟩:VV)=(fo (vv v) (it.xs.map bo)).1)∧Mem w [fz zz.1,fz zz.2.1] w':=by
 have zu:cg w v:=⟨hv⟩
 have Xu:cg w it:=⟨nH⟩
 obtain⟨kf,dD,eP⟩:=bb
 refine ba (args:=[_,_]) Tryz.func41 rfl Tryz.ntmps41 rfl ?_
 change Cw _ _ _ _ _ [(0, .agg (bF v)),(1,it.sv.val)] []
 refine Gc ?_
 refine bX rfl fun b2=> ?_
 refine bK fun b4=> ?_
 refine Gs ?_
 refine Gc ?_
 iterate 4 refine Gs ?_
 iterate 3 refine Gg ?_
 iterate 2 refine Gs ?_
 refine bZ rfl rfl rfl (fun hg=>(Ry.yl (fI rfl))) ?_
 refine Gg ?_
 refine bZ rfl rfl rfl (fun hg=>cC (dA (aG hg rfl) (dA (aG hg rfl) gE)) trivial) ?_
 refine bZ rfl rfl rfl (fun hg=>(Ry.yl (iR (aG hg rfl)))) ?_
 refine Gs ?_
 refine Gc ?_
 refine au rfl (fun h0=> ?_) (fun h0=> ?_)
 ·
  replace h0:=bz h0
  have hE:(fo (vv v) (it.xs.map bo))=(vv v,1):=by
   rw[fo,if_pos]
   rintro⟨g1,g2,g3⟩
   rcases h0 with(h|h)|h
   ·
    rw[g1]at h;cases h
   ·
    change v.gen.toNat<_ at g2;omega
   ·
    rw[g3]at h;cases h
  refine Gc ?_
  refine Gs ?_
  refine bq rfl ⟨kf,dD⟩ fun tJ F5=> ?_
  iterate 2 refine Gs ?_
  refine Gc ?_
  refine aq (.inl rfl) (bm rfl (cc rfl) (ak rfl)) (fun w1 hw=> ?_)
  exact⟨(tJ.1,⟨tJ.2,v.at_.xs⟩,v.gen,v.last),by rw[hE],by rw[hE,F5];rfl,MI (ah.mem hw)⟩
 ·
  replace h0:=bz h0
  have hq:kx (vv v)=true∧(vv v).gen<281474976710655∧py (vv v) (it.xs.map bo)=true:=⟨h0.1.1,by show v.gen.toNat<_;omega,h0.2⟩
  have GV:cO (⟨vv v,false⟩:WV):=B7 hq.1
  have GO: ∀x∈it.xs,0≤x.id∧x.id<v.at_.xs.length:=fun x hx=>by
   obtain⟨j,hj⟩:=List.getElem?_of_mem hx
   have tX:(it.xs.map bo)[j]? =Option.some (bo x):=by rw[List.getElem?_map,hj];rfl
   have hg:=zj.1 hq.2.2 j (by rw[List.length_map];exact(List.getElem?_eq_some_iff.1 hj).1)
   rw[rr,show(it.xs.map bo).getD j (0,[])=bo x by simp[List.getD,tX],Bool.and_eq_true,rp,Bool.and_eq_true,Bool.and_eq_true,decide_eq_true_eq,decide_eq_true_eq]at hg
   exact⟨hg.1.1.1,hg.1.1.2⟩
  have dt:(cv v.ae).blocks.length=v.ae.blocks.xs.length:=fu _
  refine Gc ?_
  iterate 3 refine Gs ?_
  refine Gc ?_
  refine au rfl (fun h1=> ?_) (fun h1=> ?_)
  ·
   replace h1:=bz h1
   have hE:(fo (vv v) (it.xs.map bo))=(vv v,7):=by rw[fo,if_neg (fun h=>h hq),if_pos (show(vv v).ae.off=true from h1)]
   refine Gc ?_
   refine Gs ?_
   refine bq rfl ⟨kf,dD⟩ fun xd F1=> ?_
   iterate 2 refine Gs ?_
   refine Gc ?_
   refine aq (.inl rfl) (bm rfl (cc rfl) (ak rfl)) (fun w1 hw=> ?_)
   exact⟨(xd.1,⟨xd.2,v.at_.xs⟩,v.gen,v.last),by rw[hE],by rw[hE,F1];rfl,MI (ah.mem hw)⟩
  ·
   replace h1:=bz h1
   have hE:(fo (vv v) (it.xs.map bo))=((ni (v.ae.blocks.xs.length+1) (⟨vv v,false⟩:WV) (it.xs.map bo)).1.v,(ni (v.ae.blocks.xs.length+1) (⟨vv v,false⟩:WV) (it.xs.map bo)).2):=by rw[fo,if_neg (fun h=>h hq),if_neg (show ¬(vv v).ae.off=true by rw[show(vv v).ae.off=v.ae.off from rfl,h1];simp)];rw[show(vv v).ae.blocks.length=v.ae.blocks.xs.length from dt]
   refine Gc ?_
   refine Gs ?_
   refine bq rfl ⟨kf,dD⟩ fun k9 sI=> ?_
   refine ag (cR (v:= .agg (aL (⟨⟨k9.1,⟨k9.2,v.at_.xs⟩,v.gen,v.last⟩,false⟩:aP))) rfl (MH _)) ?_
   refine bX rfl fun jE=> ?_
   refine Gs ?_
   refine Gc ?_
   refine ca (X:=Nat×Cp×Sl Int×UInt64×Int×Bool) (fun zz=>[(6, .pointer (some ⟨jE,0,none⟩)),(1,it.sv.val),(4, .pointer (some ⟨b4,0,none⟩))]) (fun zz=>[ar jE (aL (⟨⟨zz.2.1,zz.2.2.1,zz.2.2.2.1,zz.2.2.2.2.1⟩,zz.2.2.2.2.2⟩:aP)) 141,fz zz.2.1,fz zz.2.2.1,ar b4 (bF kU) 29]) (fun zz=>(ni (v.ae.blocks.xs.length+1) (⟨vv v,false⟩:WV) (it.xs.map bo))=ni zz.1 (⟨⟨cv zz.2.1,zz.2.2.1.xs,zz.2.2.2.1.toNat,zz.2.2.2.2.1⟩,zz.2.2.2.2.2⟩:WV) (it.xs.map bo)∧cO (⟨⟨cv zz.2.1,zz.2.2.1.xs,zz.2.2.2.1.toNat,zz.2.2.2.2.1⟩,zz.2.2.2.2.2⟩:WV)∧zz.2.2.1.xs.length=v.at_.xs.length∧dw (cv v.ae) (cv zz.2.1)∧v.ae.blocks.xs.length<zz.1+lp (cv zz.2.1)) (fun zz=>zz.1) (v.ae.blocks.xs.length+1,k9.1,⟨k9.2,v.at_.xs⟩,v.gen,v.last,false) ⟨by rw[sI];rfl,by rw[sI];exact GV,rfl,by rw[sI];exact .cX _,by simp only;omega⟩ (Sub.cons rfl (Sub.cons rfl (Sub.cons rfl (Sub.nil _)))) (fun w hw=>ah.mem (uS (a:=(⟨k9.2,v.at_.xs⟩:Sl Int)) (ah.mem hw:Mem _ [own bG 1 k9.2 v.at_.xs,ar jE (aL (⟨⟨k9.1,⟨k9.2,v.at_.xs⟩,v.gen,v.last⟩,false⟩:aP)) 141,fz k9.1,ar b4 (bF kU) 29] _))) ?_
   rintro⟨n,c,a,g,q,y⟩ ⟨bh,aF,bt,cS,zI⟩
   dsimp only
   simp only at bh aF bt cS zI
   have MJ:=K6 (cv c)
   have hlc:(cv c).blocks.length=(cv v.ae).blocks.length:=cS.len
   have wV:a.xs.length≤64:=aF.ka
   have Xx: ∀x∈it.xs,0≤x.id∧x.id<a.xs.length∧x.id<64:=fun x hx=>by have:=GO x hx;omega
   obtain⟨r,rfl⟩: ∃r,n=r+1:=⟨n -1,by omega⟩
   refine Gc ?_
   iterate 3 refine Gs ?_
   refine Gc ?_
   iterate 2 refine Gs ?_
   refine bq rfl ⟨aF,eP,Xx⟩ fun lB tU=> ?_
   have hb:=Fy (l:=(it.xs.map bo)) aF
   rw[←tU]at hb
   refine Gs ?_
   refine Gc ?_
   iterate 3 refine Gs ?_
   refine Gg ?_
   refine gN rfl rfl rfl (fun hg=>cC (dA (aG hg rfl) gE) trivial) ?_
   iterate 2 refine Gg ?_
   refine Gs ?_
   refine Gc ?_
   refine au rfl (fun h2=> ?_) (fun h2=> ?_)
   ·
    replace h2:=bz h2
    have fa:(gz (⟨⟨cv c,a.xs,g.toNat,q⟩,y⟩:WV) (it.xs.map bo)).2=5∧lp (cv c)<lp (gz (⟨⟨cv c,a.xs,g.toNat,q⟩,y⟩:WV) (it.xs.map bo)).1.v.ae:=⟨h2.1,by rw[←tU];show lp (cv c)<lp (cv lB.1);omega⟩
    iterate 3 refine Gi ?_
    exact bx (x:=(r+1,c,a,g,q,y)) (r,lB.1,lB.2.1,lB.2.2.1,lB.2.2.2.1,lB.2.2.2.2) ⟨by rw[bh,ni,if_pos fa,←tU],hb.ok,hb.u4.trans bt,cS.trans hb.bS,by have:=fa.2;rw[←tU]at this;change lp (cv c)<lp (cv lB.1)at this;simp only;omega⟩ (by simp only;omega) (Sub.cons rfl (Sub.cons rfl (Sub.cons rfl (Sub.nil _)))) (fun w hw=>ah.mem hw)
   ·
    replace h2:=bz h2
    have fa: ¬((gz (⟨⟨cv c,a.xs,g.toNat,q⟩,y⟩:WV) (it.xs.map bo)).2=5∧lp (cv c)<lp (gz (⟨⟨cv c,a.xs,g.toNat,q⟩,y⟩:WV) (it.xs.map bo)).1.v.ae):=by
     rw[←tU]
     rintro⟨ga,gb⟩
     change lp (cv c)<lp (cv lB.1)at gb
     rcases h2 with h|h
     ·
      exact h ga
     ·
      omega
    have CR:(ni (v.ae.blocks.xs.length+1) (⟨vv v,false⟩:WV) (it.xs.map bo))=gz (⟨⟨cv c,a.xs,g.toNat,q⟩,y⟩:WV) (it.xs.map bo):=by rw[bh,ni,if_neg fa]
    refine Gc ?_
    iterate 3 refine Gs ?_
    refine ag (Ry.to (v':= .agg (bF (⟨lB.1,lB.2.1,lB.2.2.1,lB.2.2.2.1⟩:bM))) (iA rfl) rfl) ?_
    iterate 3 refine Gs ?_
    refine Gc ?_
    refine aq (.inl rfl) (bm rfl (cc rfl) (ak rfl)) (fun w1 hw=> ?_)
    exact⟨(lB.1,lB.2.1,lB.2.2.1,lB.2.2.2.1),by rw[hE,CR],by rw[hE,CR,←tU],ah.mem hw⟩
instance ah5{w0:World}{L:List ai}{v:bM}{it:Sl It}[hv:aU w0 L v][nH:aU w0 L it]:cl Tryz.prog 41 w0 L [.agg (bF v),it.sv.val] (Cp×Sl Int×UInt64×Int) (fun zz=> .tuple #[.agg (bF (⟨zz.1,zz.2.1,zz.2.2.1,zz.2.2.2⟩:bM)), .int .i64 ((fo (vv v) (it.xs.map bo)).2)]) (fun zz=>fz zz.1::fz zz.2.1::L) (fun zz=>(⟨cv zz.1,zz.2.1.xs,zz.2.2.1.toNat,zz.2.2.2⟩:VV)=(fo (vv v) (it.xs.map bo)).1) (dQ v.ae∧v.at_.xs.length≤1000000∧it.xs.length≤1000000):=⟨fun hp w hw=>(Xw w v it (hv.h w hw) (nH.h w hw) hp).mono fun e w' ⟨x,h1,h2,h3⟩=>⟨x,h1,h2,hw.call h3⟩⟩
theorem Xy(w:World)(c:Cp)(n:Int)(hc:Deep.aY (hp w) c)(bb:dQ c):Calls Tryz.prog 40 #[.agg (aB c), .int .i64 n] w fun e w'=> ∃zz:Cp×Sl Int×UInt64×Int,e= .returned (.tuple #[.agg (bF (⟨zz.1,zz.2.1,zz.2.2.1,zz.2.2.2⟩:bM)), .int .i64 ((lX (cv c) n).2)])∧((⟨cv zz.1,zz.2.1.xs,zz.2.2.1.toNat,zz.2.2.2⟩:VV)=(lX (cv c) n).1)∧Mem w [fz zz.1,fz zz.2.1] w':=by
 have jR:cg w c:=⟨hc⟩
 have kf:dQ c:=bb
 refine ba (args:=[_,_]) Tryz.func40 rfl Tryz.ntmps40 rfl ?_
 change Cw _ _ _ _ _ [(0, .agg (aB c)),(1, .int .i64 n)] []
 refine Gc ?_
 refine bX rfl fun b2=> ?_
 refine bK fun b4=> ?_
 refine Gs ?_
 refine Gc ?_
 iterate 4 refine Gs ?_
 iterate 2 refine Gg ?_
 iterate 2 refine Gs ?_
 iterate 3 refine Gg ?_
 refine bZ rfl rfl rfl (fun hg=>cC (dA (aG hg rfl) gE) trivial) ?_
 refine Gg ?_
 refine Gs ?_
 refine Gc ?_
 refine au rfl (fun h0=> ?_) (fun h0=> ?_)
 ·
  replace h0:=bz h0
  have hE:(lX (cv c) n)=(⟨cv c,[],0,0⟩,1):=by
   rw[lX,if_pos]
   rintro⟨g1,g2,g3⟩
   rcases h0 with(h|h)|h
   ·
    rw[g1]at h;cases h
   ·
    omega
   ·
    change _≤jt c.size at g3;omega
  refine Gc ?_
  refine Gs ?_
  refine bq rfl (by assumption) fun mA Cu=> ?_
  refine ag (cR (v:= .agg (bF (⟨mA,⟨Sv.none,[]⟩,0,0⟩:bM))) rfl (zP mA)) ?_
  iterate 2 refine Gs ?_
  refine Gc ?_
  refine aq (.inl rfl) (bm rfl (cc rfl) (ak rfl)) (fun w1 hw=> ?_)
  exact⟨(mA,⟨Sv.none,[]⟩,0,0),by rw[hE],by rw[hE,Cu];rfl,ah.mem (zQ (ah.mem hw:Mem w [fz mA] _))⟩
 ·
  replace h0:=bz h0
  have hq:fB (cv c)=true∧1≤n∧n≤jt (cv c).size:=⟨h0.1.1,by omega,by show n≤jt c.size;omega⟩
  obtain⟨e1,e2,e3,e4⟩:=fv.1 hq.1
  have r9:=Tb (cv c).size
  have GV:cO (⟨⟨cv c,[],0,0⟩,false⟩:WV):=⟨e1,e2,e3,e4, .inl rfl,(by show(0:Nat)<_;omega),(fun n hn=>by cases hn),(by show(0:Nat)≤64;omega)⟩
  refine Gc ?_
  iterate 2 refine Gs ?_
  refine Gc ?_
  refine au rfl (fun h1=> ?_) (fun h1=> ?_)
  ·
   replace h1:=bz h1
   have hE:(lX (cv c) n)=(⟨cv c,[],0,0⟩,7):=by rw[lX,if_neg (fun h=>h hq),if_pos (show(cv c).off=true from h1)]
   refine Gc ?_
   refine Gs ?_
   refine bq rfl (by assumption) fun du mG=> ?_
   refine ag (cR (v:= .agg (bF (⟨du,⟨Sv.none,[]⟩,0,0⟩:bM))) rfl (zP du)) ?_
   iterate 2 refine Gs ?_
   refine Gc ?_
   refine aq (.inl rfl) (bm rfl (cc rfl) (ak rfl)) (fun w1 hw=> ?_)
   exact⟨(du,⟨Sv.none,[]⟩,0,0),by rw[hE],by rw[hE,mG];rfl,ah.mem (zQ (ah.mem hw:Mem w [fz du] _))⟩
  ·
   replace h1:=bz h1
   have Bj:(lX (cv c) n)=(if(my (cv c) n).2≠0 then(⟨(my (cv c) n).1.v.ae,[],0,0⟩,(my (cv c) n).2)else((my (cv c) n).1.v,0)):=by rw[lX,if_neg (fun h=>h hq),if_neg (show ¬(cv c).off=true by rw[show(cv c).off=c.off from rfl,h1];simp)]
   refine Gc ?_
   refine Gs ?_
   refine bq rfl (by assumption) fun k9 sI=> ?_
   refine ag (cR (v:= .agg (bF (⟨k9,⟨Sv.none,[]⟩,0,0⟩:bM))) rfl (zP k9)) ?_
   refine ag (cR (v:= .agg (aL (⟨(⟨k9,⟨Sv.none,[]⟩,0,0⟩:bM),false⟩:aP))) rfl (MH _)) ?_
   refine bX rfl fun zR=> ?_
   refine Gs ?_
   iterate 4 refine Gi ?_
   refine qU [ar zR (aL (⟨⟨k9,⟨Sv.none,[]⟩,0,0⟩,false⟩:aP)) 141,fz k9,fz (⟨Sv.none,[]⟩:Sl Int),ar b4 (bF kU) 29] (fun w hw=>ah.mem (zQ (ah.mem hw:Mem _ [ar zR (aL (⟨⟨k9,⟨Sv.none,[]⟩,0,0⟩,false⟩:aP)) 141,fz k9,ar b4 (bF kU) 29] _))) ?_
   refine Gi ?_
   iterate 2 refine Gs ?_
   refine bq rfl ⟨by rw[sI];exact GV,by omega,by omega⟩ fun la MK=> ?_
   have wV:(⟨⟨cv la.1,la.2.1.xs,la.2.2.1.toNat,la.2.2.2⟩,false⟩:WV)=(my (cv c) n).1:=by rw[MK,my,←sI];rfl
   refine Gs ?_
   refine Gc ?_
   iterate 2 refine Gs ?_
   refine Gc ?_
   refine au rfl (fun h2=> ?_) (fun h2=> ?_)
   ·
    replace h2:=bz h2
    have hE:(lX (cv c) n)=(⟨(my (cv c) n).1.v.ae,[],0,0⟩,(my (cv c) n).2):=by rw[Bj,if_pos (by rw[my,←sI];exact h2)]
    refine Gc ?_
    iterate 4 refine Gs ?_
    refine ag (Ry.to (v':= .agg (aB la.1)) (iA rfl) rfl) ?_
    refine ag (cR (v:= .agg (bF (⟨la.1,⟨Sv.none,[]⟩,0,0⟩:bM))) rfl (zP la.1)) ?_
    iterate 3 refine Gs ?_
    refine Gc ?_
    refine aq (.inl rfl) (bm rfl (cc rfl) (ak rfl)) (fun w1 hw=> ?_)
    exact⟨(la.1,⟨Sv.none,[]⟩,0,0),by rw[hE,my,←sI];rfl,by rw[hE,←wV];rfl,ah.mem (zQ (ah.mem hw:Mem w [fz la.1] _))⟩
   ·
    replace h2:=bz h2
    have hE:(lX (cv c) n)=((my (cv c) n).1.v,0):=by rw[Bj,if_neg (by rw[my,←sI];exact fun h=>h h2)]
    refine Gc ?_
    iterate 3 refine Gs ?_
    refine ag (Ry.to (v':= .agg (bF (⟨la.1,la.2.1,la.2.2.1,la.2.2.2⟩:bM))) (iA rfl) rfl) ?_
    iterate 2 refine Gs ?_
    refine Gc ?_
    refine aq (.inl rfl) (bm rfl (cc rfl) (ak rfl)) (fun w1 hw=> ?_)
    exact⟨(la.1,la.2.1,la.2.2.1,la.2.2.2),by rw[hE],by rw[hE,←wV],ah.mem hw⟩
instance ah6{w0:World}{L:List ai}{c:Cp}{n:Int}[hc:aU w0 L c]:cl Tryz.prog 40 w0 L [.agg (aB c), .int .i64 n] (Cp×Sl Int×UInt64×Int) (fun zz=> .tuple #[.agg (bF (⟨zz.1,zz.2.1,zz.2.2.1,zz.2.2.2⟩:bM)), .int .i64 ((lX (cv c) n).2)]) (fun zz=>fz zz.1::fz zz.2.1::L) (fun zz=>(⟨cv zz.1,zz.2.1.xs,zz.2.2.1.toNat,zz.2.2.2⟩:VV)=(lX (cv c) n).1) (dQ c):=⟨fun hp w hw=>(Xy w c n (hc.h w hw) hp).mono fun e w' ⟨x,h1,h2,h3⟩=>⟨x,h1,h2,hw.call h3⟩⟩
open Go.aC Go.Kb
theorem ah7(w:World)(n many:Nat)(hn:n<2^64)(hm:1≤many∧many≤8):Calls Tryz.prog 156 #[.int .u64 (n:Nat), .int .i64 (many:Nat)] w fun e w'=> ∃s:Sv,e= .returned s.val∧s.Ok∧s.len=many∧Mem w [own aM 1 s (be n many)] w':=by
 refine ba (args:=[_,_]) Tryz.func156 rfl Tryz.ntmps156 rfl ?_
 change Cw _ _ _ _ _ [(0, .int .u64 (n:Nat)),(1, .int .i64 (many:Nat))] []
 refine aO ?_
 refine aZ ?_
 refine ag (bl rfl) ?_
 refine aX ?_
 refine aN ?_
 refine aO ?_
 refine aZ ?_
 refine ag (bl rfl) ?_
 refine aX ?_
 refine aN ?_
 refine aO ?_
 refine aO ?_
 refine aZ ?_
 refine ag (aD rfl) ?_
 refine ag (cx rfl rfl rfl) ?_
 refine ag (aD rfl) ?_
 refine bZ rfl rfl rfl (fun hg=>(aD rfl).yl) ?_
 refine bZ rfl rfl rfl (fun hg=>(cx (aG hg rfl) rfl rfl).yl) ?_
 refine ag (mL rfl rfl rfl) ?_
 refine aX ?_
 refine aN ?_
 refine au rfl (fun h0=> ?_) (fun h0=> ?_)
 ·
  exfalso;simp at h0;omega
 ·
  refine fT ?_
  refine aN ?_
  refine aO ?_
  refine aO ?_
  refine aZ ?_
  refine ag (bl rfl) ?_
  refine aX ?_
  refine aN ?_
  refine lI ?_
  refine ca (X:=Nat×Sv) (fun x=>[(0, .int .u64 (n/256^x.1:Nat)),(1, .int .i64 (many:Nat)),(6, .int .i64 (x.1:Nat)),(5,x.2.val)]) (fun x=>[own aM 1 x.2 (be n x.1)]) (fun x=>x.1≤many∧x.2.Ok∧x.2.len=x.1) (fun x=>many -x.1) (0,Sv.none) ⟨by omega,Sv.vW,rfl⟩ (Sub.cons (look_eq rfl (by simp)) (Sub.cons rfl (Sub.cons rfl (Sub.cons rfl (Sub.nil _))))) (fun w hw=>hw.dP aM 1) ?_
  rintro⟨i,s⟩ ⟨bh,aF,bt⟩
  refine aO ?_
  refine aO ?_
  refine aZ ?_
  refine ag (aD rfl) ?_
  refine ag (aD rfl) ?_
  refine ag (cx rfl rfl rfl) ?_
  refine aX ?_
  refine aN ?_
  refine au rfl (fun h1=> ?_) (fun h1=> ?_)
  ·
   simp only[decide_eq_true_eq]at h1
   refine fT ?_
   refine aN ?_
   refine aO ?_
   refine lI ?_
   refine aO ?_
   refine aZ ?_
   refine ag (aD rfl) ?_
   refine ag (yx rfl rfl rfl rfl (by decide)) ?_
   refine ag (v8 rfl rfl) ?_
   refine pc (enc:=aM) [b8 (n/256^i)] (vals:=[_]) rfl (by rw[IE];rfl) rfl (by decide) (by decide) fun xf=> ?_
   refine ag (aD rfl) ?_
   refine mg (ys:=be n i) rfl rfl (by decide) (fun w hw=>kN Tryz.underlying38 (by decide) ((inferInstance:fD _ s _ _ _ _).holds w hw)) (by simp[hO];omega) (by simp[hO];omega) fun Xz XA XB=> ?_
   refine ag (bl rfl) ?_
   refine aX ?_
   refine aN ?_
   refine aZ ?_
   refine ag (aD rfl) ?_
   refine ag (Qf rfl rfl rfl rfl (Nat.lt_of_le_of_lt (Nat.div_le_self _ _) hn) (by decide)) ?_
   refine ag (bl rfl) ?_
   refine aX ?_
   refine o8 ?_
   refine aN ?_
   refine aZ ?_
   refine ag (aD rfl) ?_
   refine ag (pR rfl rfl (by omega)) ?_
   refine ag (bl rfl) ?_
   refine aX ?_
   exact bx (i+1,Xz) ⟨by omega,XA,XB.trans (by simp[hO])⟩ (by omega) (Sub.cons (look_eq rfl (by rw[Nat.div_div_eq_div_mul,Nat.pow_succ])) (Sub.cons rfl (Sub.cons rfl (Sub.cons rfl (Sub.nil _))))) (fun w hw=>hw.sub (List.Sublist.cons_cons _ (List.nil_sublist _)))
  ·
   simp only[decide_eq_false_iff_not]at h1
   refine rU ?_
   refine l8 ?_
   refine l8 ?_
   refine rV ?_
   refine aN ?_
   refine aO ?_
   refine aZ ?_
   refine ag (aD rfl) ?_
   refine ag (bl rfl) ?_
   refine aX ?_
   refine aN ?_
   refine eC ?_
   refine aq (.inl rfl) (kj rfl rfl) (fun w hw=> ?_)
   exact⟨s,rfl,aF,(show s.len=i from bt).trans (by omega),by rwa [show i=many by omega]at hw⟩
theorem XC(a b:Int):oW Tryz.prog 57 [.int .i64 a, .int .i64 b] (.int .i64 (iN a b)):=⟨fun w=>by
 refine ba (args:=[_,_]) Tryz.func57 rfl Tryz.ntmps57 rfl ?_
 change Cw _ _ _ _ _ [(0, .int .i64 a),(1, .int .i64 b)] []
 refine aO ?_
 refine aZ ?_
 refine ag (bl rfl) ?_
 refine aX ?_
 refine aN ?_
 refine aO ?_
 refine aO ?_
 refine aZ ?_
 refine ag (aD rfl) ?_
 refine ag (cx rfl rfl rfl) ?_
 refine ag (aD rfl) ?_
 refine bZ rfl rfl rfl (fun hg=>(aD rfl).yl) ?_
 refine bZ rfl rfl rfl (fun hg=>(cx (aG hg rfl) rfl rfl).yl) ?_
 refine ag (mL rfl rfl rfl) ?_
 refine ag (aD rfl) ?_
 refine bZ rfl rfl rfl (fun hg=>(aD rfl).yl) ?_
 refine bZ rfl rfl rfl (fun hg=>(cx (aG hg rfl) rfl rfl).yl) ?_
 refine ag (mL rfl rfl rfl) ?_
 refine ag (aD rfl) ?_
 refine bZ rfl rfl rfl (fun hg=>(aD rfl).yl) ?_
 refine bZ rfl rfl rfl (fun hg=>(cx (aG hg rfl) rfl rfl).yl) ?_
 refine ag (mL rfl rfl rfl) ?_
 refine aX ?_
 refine aN ?_
 refine au rfl (fun h0=> ?_) (fun h0=> ?_)
 ·
  simp only[Bool.or_eq_true,decide_eq_true_eq]at h0
  refine aO ?_
  refine aZ ?_
  refine ag (bl rfl) ?_
  refine aX ?_
  refine aN ?_
  refine eC ?_
  refine ff ?_
  refine aq (.inl rfl) (kj rfl rfl) (fun w hw=> ?_)
  exact⟨congrArg (fun b=>Ending.returned (Value.int .i64 b)) ((if_pos (by omega)).symm),hw.sub (List.nil_sublist _)⟩
 ·
  simp only[Bool.or_eq_false_iff,decide_eq_false_iff_not]at h0
  have hq:b/20≤12:=by omega
  have zw:0≤b/20:=by omega
  have hm:a*(b/20)≤64*12:=Int.mul_le_mul (by omega) hq zw (by decide)
  have mD:0≤a*(b/20):=Int.mul_nonneg (by omega) zw
  refine fT ?_
  refine aN ?_
  refine aO ?_
  refine aZ ?_
  refine ag (aD rfl) ?_
  refine ag (aD rfl) ?_
  refine ag (oc rfl rfl (by omega) (by omega)) ?_
  refine ag (ur rfl rfl (by omega)) ?_
  refine ag (DM rfl rfl) ?_
  refine ag (bl rfl) ?_
  refine aX ?_
  refine aN ?_
  refine eC ?_
  refine aq (.inl rfl) (kj rfl rfl) (fun w hw=> ?_)
  exact⟨congrArg (fun b=>Ending.returned (Value.int .i64 b)) ((if_neg (by omega)).symm),hw.sub (List.nil_sublist _)⟩⟩
instance ah8(a b:Int):oW Tryz.prog 57 [.int .i64 a, .int .i64 b] (.int .i64 (iN a b)):=XC a b
open Go.aC Go.Kb
def zS:Array Value:=Array.replicate 20 (.int .u8 0)
theorem qB:zS.size=20:=by simp[zS]
instance:fe Tryz.prog 197 (.agg zS):=⟨by kernel_rfl⟩
theorem ML(k:Key):(cW k).all (·.oneCell')=true:=(inferInstance:fW (cW k) 16).one
theorem XD(w0 w:World)(L:List ai)(s:Sv)(xs:List UInt8)(r:Rt)(hw:Mem w0 (own aM 1 s xs::L) w)(hl:xs.length≤1000000):Calls Tryz.prog 113 #[s.val, .agg (ay r)] w fun e w'=> ∃s':Sv,e= .returned s'.val∧s'.Ok∧s'.len=xs.length+20∧Mem w0 (own aM 1 s' (xs++eJ r)::L) w':=by
 refine kl (args:=[_,_]) Tryz.func113 rfl Tryz.ntmps113 rfl hw ?_
 change Cw _ _ _ _ _ [(0,s.val),(1, .agg (ay r))] (own aM 1 s xs::L)
 refine aO ?_
 refine aZ ?_
 refine bX rfl fun b3=> ?_
 refine ag (bl rfl) ?_
 refine aX ?_
 refine aN ?_
 refine aO ?_
 refine aZ ?_
 refine bK fun b5=> ?_
 refine aX ?_
 refine aN ?_
 refine aO ?_
 refine aO ?_
 refine aZ ?_
 refine ag (aH (o':=0) rfl rfl) ?_
 refine ag (aH (o':=0) rfl rfl) ?_
 refine ag (bH rfl) ?_
 refine ag (cx rfl rfl rfl) ?_
 refine aX ?_
 refine aN ?_
 refine au rfl (fun h0=> ?_) (fun h0=> ?_)
 ·
  simp only[decide_eq_true_eq]at h0
  refine aZ ?_
  refine ag (rR rfl rfl (by omega) (by omega)) ?_
  refine eN rfl rfl (by simp[qB]) rfl rfl ?_
  refine aX ?_
  refine aN ?_
  refine aO ?_
  refine aZ ?_
  refine ag (aH (o':=0) rfl rfl) ?_
  refine ag (aH (o':=1) rfl rfl) ?_
  refine ag (bH rfl) ?_
  refine ag (rS rfl (wF _)) ?_
  refine ag (rR rfl rfl (by omega) (by omega)) ?_
  refine eN rfl rfl (by simp[qB]) rfl rfl ?_
  refine aX ?_
  refine aN ?_
  refine aO ?_
  refine uy 4 [] (by kernel_rfl) (by kernel_rfl) ?_
  simp only[List.take_succ_cons,List.take_zero]
  refine bc (Is rfl rfl (by decide) (by decide)) ?_
  refine bc (aH (o':=0) rfl rfl) ?_
  refine bc (aH (o':=2) rfl rfl) ?_
  refine bc (uu rfl) ?_
  refine sU ?_
  refine sV ?_
  simp only[List.drop_succ_cons,List.drop_zero]
  refine DQ (vs:=cW r.p.key) rfl rfl (by rw[gH];rfl) (fun w hw j hj=>by rw[Addr.gp,hw.cell (i:=1) rfl];exact(ot r (2+j) (by rw[gH]at hj;omega)).trans (pX r.p j)) (ML _) (by simp[gH,qB]) rfl ?_
  refine aX ?_
  refine aN ?_
  refine aO ?_
  refine aZ ?_
  refine ag (aH (o':=18) rfl rfl) ?_
  refine ag (bH rfl) ?_
  refine ag (uw (p:=r.dN.toNat) rfl rfl (Nat.lt_of_lt_of_le r.dN.toNat_lt (by decide)) (by decide)) ?_
  refine ag (v8 (n:=r.dN.toNat/256) rfl rfl) ?_
  refine ag (rR rfl rfl (by omega) (by omega)) ?_
  refine eN rfl rfl (by simp[mQ,gH,qB]) rfl rfl ?_
  refine aX ?_
  refine aN ?_
  refine aO ?_
  refine aZ ?_
  refine ag (aH (o':=18) rfl rfl) ?_
  refine ag (bH rfl) ?_
  refine ag (v8 (n:=r.dN.toNat) rfl rfl) ?_
  refine ag (rR rfl rfl (by omega) (by omega)) ?_
  refine eN rfl rfl (by simp[mQ,gH,qB]) rfl rfl ?_
  refine aX ?_
  refine aN ?_
  refine aO ?_
  refine aZ ?_
  refine ag (aD rfl) ?_
  refine ag (uu rfl) ?_
  refine mg (ys:=eJ r) rfl rfl (by decide) (fun w hw=>kN (s:=⟨false,b5,0,20,20,none⟩) Tryz.underlying38 (by decide) (AW (Ke r (by simp[qB]) (by simp[zS,h0])) (oC r) (by decide) w hw)) (by rw[oC];omega) (by rw[oC];omega) fun GW GX GY=> ?_
  refine ag (bl rfl) ?_
  refine aX ?_
  refine aN ?_
  refine eC ?_
  refine aq (.inl rfl) (kj rfl rfl) (fun w hw=> ?_)
  exact⟨GW,rfl,GX,GY.trans (by rw[List.length_append,oC]),hw.sub (List.Sublist.cons _ (List.Sublist.cons _ (List.Sublist.refl _)))⟩
 ·
  simp only[decide_eq_false_iff_not]at h0
  refine fT ?_
  refine aN ?_
  refine aO ?_
  refine aZ ?_
  refine ag (aH (o':=0) rfl rfl) ?_
  refine ag (aH (o':=1) rfl rfl) ?_
  refine ag (bH rfl) ?_
  refine ag (rS rfl (wF _)) ?_
  refine ag (rR rfl rfl (by omega) (by omega)) ?_
  refine eN rfl rfl (by simp[qB]) rfl rfl ?_
  refine aX ?_
  refine aN ?_
  refine aO ?_
  refine uy 4 [] (by kernel_rfl) (by kernel_rfl) ?_
  simp only[List.take_succ_cons,List.take_zero]
  refine bc (Is rfl rfl (by decide) (by decide)) ?_
  refine bc (aH (o':=0) rfl rfl) ?_
  refine bc (aH (o':=2) rfl rfl) ?_
  refine bc (uu rfl) ?_
  refine sU ?_
  refine sV ?_
  simp only[List.drop_succ_cons,List.drop_zero]
  refine DQ (vs:=cW r.p.key) rfl rfl (by rw[gH];rfl) (fun w hw j hj=>by rw[Addr.gp,hw.cell (i:=1) rfl];exact(ot r (2+j) (by rw[gH]at hj;omega)).trans (pX r.p j)) (ML _) (by simp[gH,qB]) rfl ?_
  refine aX ?_
  refine aN ?_
  refine aO ?_
  refine aZ ?_
  refine ag (aH (o':=18) rfl rfl) ?_
  refine ag (bH rfl) ?_
  refine ag (uw (p:=r.dN.toNat) rfl rfl (Nat.lt_of_lt_of_le r.dN.toNat_lt (by decide)) (by decide)) ?_
  refine ag (v8 (n:=r.dN.toNat/256) rfl rfl) ?_
  refine ag (rR rfl rfl (by omega) (by omega)) ?_
  refine eN rfl rfl (by simp[mQ,gH,qB]) rfl rfl ?_
  refine aX ?_
  refine aN ?_
  refine aO ?_
  refine aZ ?_
  refine ag (aH (o':=18) rfl rfl) ?_
  refine ag (bH rfl) ?_
  refine ag (v8 (n:=r.dN.toNat) rfl rfl) ?_
  refine ag (rR rfl rfl (by omega) (by omega)) ?_
  refine eN rfl rfl (by simp[mQ,gH,qB]) rfl rfl ?_
  refine aX ?_
  refine aN ?_
  refine aO ?_
  refine aZ ?_
  refine ag (aD rfl) ?_
  refine ag (uu rfl) ?_
  refine mg (ys:=eJ r) rfl rfl (by decide) (fun w hw=>kN (s:=⟨false,b5,0,20,20,none⟩) Tryz.underlying38 (by decide) (AW (Ke r (by simp[qB]) (by simp[zS,h0])) (oC r) (by decide) w hw)) (by rw[oC];omega) (by rw[oC];omega) fun GW GX GY=> ?_
  refine ag (bl rfl) ?_
  refine aX ?_
  refine aN ?_
  refine eC ?_
  refine aq (.inl rfl) (kj rfl rfl) (fun w hw=> ?_)
  exact⟨GW,rfl,GX,GY.trans (by rw[List.length_append,oC]),hw.sub (List.Sublist.cons _ (List.Sublist.cons _ (List.Sublist.refl _)))⟩
open Go.aC Go.Kb
theorem XE(w:World)(s:Sv)(xs:List Rt)(hs:bQ ay 19 (hp w) s xs):Calls Tryz.prog 39 #[s.val] w fun e w'=>e= .returned (.bool (dr xs))∧Mem w [] w':=by
 refine ba (args:=[_]) Tryz.func39 rfl Tryz.ntmps39 rfl ?_
 change Cw _ _ _ _ _ [(0,s.val)] []
 refine aO ?_
 refine aZ ?_
 refine ag (bl rfl) ?_
 refine aX ?_
 refine aN ?_
 refine aO ?_
 refine aO ?_
 refine aZ ?_
 refine ag (aD rfl) ?_
 refine ag (sY rfl hs.ok hs.len) ?_
 refine ag (cx rfl rfl rfl) ?_
 refine aX ?_
 refine aN ?_
 refine au rfl (fun h0=> ?_) (fun h0=> ?_)
 ·
  simp only[decide_eq_true_eq]at h0
  refine aO ?_
  refine aZ ?_
  refine ag (bl rfl) ?_
  refine aX ?_
  refine aN ?_
  refine eC ?_
  refine ff ?_
  refine aq (.inl rfl) (kj rfl rfl) (fun w hw=> ?_)
  exact⟨congrArg (fun b=>Ending.returned (Value.bool b)) ((I6 (by omega)).symm),hw.sub (List.nil_sublist _)⟩
 ·
  simp only[decide_eq_false_iff_not]at h0
  refine fT ?_
  refine aN ?_
  refine aO ?_
  refine aO ?_
  refine aZ ?_
  refine ag (aD rfl) ?_
  refine ag (sY rfl hs.ok hs.len) ?_
  refine ag (aD rfl) ?_
  refine aX ?_
  refine aN ?_
  refine lI ?_
  refine ca (X:=Nat) (fun i=>[(10, .int .i64 (i:Nat)),(9, .int .i64 (xs.length:Nat)),(8,s.val),(0,s.val)]) (fun i=>[]) (fun i=>i≤xs.length∧pZ xs i=true) (fun i=>xs.length -i) 0 ⟨by omega,I5 xs⟩ (Sub.cons rfl (Sub.cons rfl (Sub.cons rfl (Sub.cons rfl (Sub.nil _))))) (fun w hw=>hw) ?_
  rintro i ⟨bh,aF⟩
  refine aO ?_
  refine aZ ?_
  refine ag (cx rfl rfl rfl) ?_
  refine aX ?_
  refine aN ?_
  refine aO ?_
  refine au rfl (fun h1=> ?_) (fun h1=> ?_)
  ·
   simp only[decide_eq_true_eq]at h1
   have bp:i<xs.length:=by omega
   obtain⟨r,hr⟩:=get_some bp
   obtain⟨q,hq⟩:=get_some (xs:=xs) (i:=i -1) (by omega)
   refine fT ?_
   refine aN ?_
   refine aO ?_
   refine lI ?_
   refine aO ?_
   refine aZ ?_
   refine ag (aD rfl) ?_
   refine ag (lK rfl rfl rfl hs.ok (by rw[hs.len];omega)) ?_
   refine ag (AS rfl (yr hs) hr rfl) ?_
   refine bK fun b4=> ?_
   refine ag (bl rfl) ?_
   refine qN rfl rfl ?_
   refine aX ?_
   refine aN ?_
   refine aO ?_
   refine aO ?_
   refine aZ ?_
   refine ag (aH (o':=0) rfl rfl) ?_
   refine ag (iA rfl) ?_
   refine fy (vO rfl) ?_
   refine ag (iR rfl) ?_
   refine aX ?_
   refine aN ?_
   refine au rfl (fun h2=> ?_) (fun h2=> ?_)
   ·
    refine aO ?_
    refine aZ ?_
    refine ag (bl rfl) ?_
    refine aX ?_
    refine aN ?_
    refine eC ?_
    refine ff ?_
    refine mN ?_
    refine ff ?_
    refine ff ?_
    refine mN ?_
    refine ff ?_
    refine aq (.inl rfl) (kj rfl rfl) (fun w hw=> ?_)
    exact⟨congrArg (fun b=>Ending.returned (Value.bool b)) ((A7 bp (I8 hr (by simpa using h2))).symm),hw.sub (List.nil_sublist _)⟩
   ·
    refine fT ?_
    refine aN ?_
    refine aO ?_
    refine gO (by kernel_rfl) (by kernel_rfl) ?_
    refine bc (aD rfl) ?_
    refine bc (cx rfl rfl rfl) ?_
    refine bc (aD rfl) ?_
    refine fC rfl rfl rfl (fun hg=>(aD rfl).yl) ?_
    refine fC rfl rfl rfl (fun hg=>(aD rfl).yl) ?_
    refine fC rfl rfl rfl (fun hg=>(yj (aG hg rfl) rfl (by omega)).yl) ?_
    refine fC rfl rfl rfl (fun hg=>(lK (i:=i -1) (aG hg rfl) (aG hg rfl) (by have:=of_decide_eq_true hg;omega) hs.ok (by rw[hs.len];omega)).yl) ?_
    refine fC rfl rfl rfl (fun hg=>(aH (aG hg rfl) rfl).yl) ?_
    refine fC rfl rfl rfl (fun hg=>(Iz (j:=0) (aG hg rfl) (yr hs) hq rfl (by decide)).yl) ?_
    refine fC rfl rfl rfl (fun hg=>(aH (o':=0) rfl rfl).yl) ?_
    refine fC rfl rfl rfl (fun hg=>(iA (aG hg rfl)).yl) ?_
    refine fC rfl rfl rfl (fun hg=>vO (dA (aG hg rfl) (dA (aG hg rfl) gE))) ?_
    refine fC rfl rfl rfl (fun hg=>(iR (aG hg rfl)).yl) ?_
    refine bc (vK rfl rfl rfl) ?_
    refine vQ ?_
    refine aN ?_
    refine au rfl (fun h3=> ?_) (fun h3=> ?_)
    ·
     refine aO ?_
     refine aZ ?_
     refine ag (bl rfl) ?_
     refine aX ?_
     refine aN ?_
     refine eC ?_
     refine mN ?_
     refine ff ?_
     refine ff ?_
     refine mN ?_
     refine ff ?_
     refine aq (.inl rfl) (kj rfl rfl) (fun w hw=> ?_)
     exact⟨congrArg (fun b=>Ending.returned (Value.bool b)) ((A7 bp (by rw[I9 hr hq,h3];simp)).symm),hw.sub (List.nil_sublist _)⟩
    ·
     refine fT ?_
     refine o8 ?_
     refine aN ?_
     refine aZ ?_
     refine ag (pR rfl rfl (by omega)) ?_
     refine ag (aD rfl) ?_
     refine aX ?_
     exact bx (i+1) ⟨by omega,by rw[D7,aF,I9 hr hq,h3];simpa using h2⟩ (by omega) (Sub.cons rfl (Sub.cons rfl (Sub.cons rfl (Sub.cons rfl (Sub.nil _))))) (fun w hw=>hw.sub (List.nil_sublist _))
  ·
   simp only[decide_eq_false_iff_not]at h1
   refine rU ?_
   refine l8 ?_
   refine l8 ?_
   refine rV ?_
   refine aN ?_
   refine aO ?_
   refine aZ ?_
   refine ag (bl rfl) ?_
   refine aX ?_
   refine aN ?_
   refine eC ?_
   refine aq (.inl rfl) (kj rfl rfl) (fun w hw=> ?_)
   exact⟨congrArg (fun b=>Ending.returned (Value.bool b)) ((I7 (by omega) (by rwa [show i=xs.length by omega]at aF)).symm),hw.sub (List.nil_sublist _)⟩
theorem XF(w:World)(s t:Sv)(xs ys:List Rt)(hs:bQ ay 19 (hp w) s xs)(ht:bQ ay 19 (hp w) t ys)(hb:xs.length<9223372036854775807):Calls Tryz.prog 36 #[s.val,t.val] w fun e w'=>e= .returned (.bool (decide (xs=ys)))∧Mem w [] w':=by
 refine ba (args:=[_,_]) Tryz.func36 rfl Tryz.ntmps36 rfl ?_
 change Cw _ _ _ _ _ [(0,s.val),(1,t.val)] []
 refine aO ?_
 refine aZ ?_
 refine ag (bl rfl) ?_
 refine aX ?_
 refine aN ?_
 refine aO ?_
 refine aO ?_
 refine aZ ?_
 refine ag (aD rfl) ?_
 refine ag (sY rfl hs.ok hs.len) ?_
 refine ag (aD rfl) ?_
 refine ag (sY rfl ht.ok ht.len) ?_
 refine ag (cx rfl rfl rfl) ?_
 refine aX ?_
 refine aN ?_
 refine au rfl (fun h0=> ?_) (fun h0=> ?_)
 ·
  simp only[Bool.not_eq_true',decide_eq_false_iff_not]at h0
  refine aO ?_
  refine aZ ?_
  refine ag (bl rfl) ?_
  refine aX ?_
  refine aN ?_
  refine eC ?_
  refine ff ?_
  refine aq (.inl rfl) (kj rfl rfl) (fun w hw=> ?_)
  exact⟨congrArg (fun b=>Ending.returned (Value.bool b)) ((decide_eq_false (fun e=>h0 (by rw[e]))).symm),hw.sub (List.nil_sublist _)⟩
 ·
  simp only[Bool.not_eq_false',decide_eq_true_eq]at h0
  refine fT ?_
  refine aN ?_
  refine aO ?_
  refine aO ?_
  refine aZ ?_
  refine ag (bl rfl) ?_
  refine aX ?_
  refine aN ?_
  refine lI ?_
  refine ca (X:=Nat) (fun i=>[(5, .int .i64 (i:Nat)),(0,s.val),(1,t.val)]) (fun i=>[]) (fun i=>i≤xs.length∧ ∀j,j<i→xs[j]? =ys[j]?) (fun i=>xs.length -i) 0 ⟨by omega,fun j h=>by omega⟩ (Sub.cons rfl (Sub.cons rfl (Sub.cons rfl (Sub.nil _)))) (fun w hw=>hw) ?_
  rintro i ⟨bh,aF⟩
  refine aO ?_
  refine aO ?_
  refine aZ ?_
  refine ag (aD rfl) ?_
  refine ag (aD rfl) ?_
  refine ag (sY rfl hs.ok hs.len) ?_
  refine ag (cx rfl rfl rfl) ?_
  refine aX ?_
  refine aN ?_
  refine au rfl (fun h1=> ?_) (fun h1=> ?_)
  ·
   simp only[decide_eq_true_eq]at h1
   obtain⟨r,hr⟩:=get_some (xs:=xs) (i:=i) (by omega)
   obtain⟨q,hq⟩:=get_some (xs:=ys) (i:=i) (by omega)
   refine fT ?_
   refine aN ?_
   refine aO ?_
   refine lI ?_
   refine aO ?_
   refine gO (by kernel_rfl) (by kernel_rfl) ?_
   refine bc (aD rfl) ?_
   refine bc (aD rfl) ?_
   refine bc (lK rfl rfl rfl hs.ok (by rw[hs.len];omega)) ?_
   refine bc (AS rfl (yr hs) hr rfl) ?_
   refine bc (aD rfl) ?_
   refine bc (aD rfl) ?_
   refine bc (lK rfl rfl rfl ht.ok (by rw[ht.len];omega)) ?_
   refine bc (AS rfl (yr ht) hq rfl) ?_
   refine bc (DL rfl rfl) ?_
   refine vQ ?_
   refine aN ?_
   refine au rfl (fun h2=> ?_) (fun h2=> ?_)
   ·
    refine aO ?_
    refine aZ ?_
    refine ag (bl rfl) ?_
    refine aX ?_
    refine aN ?_
    refine eC ?_
    refine mN ?_
    refine ff ?_
    refine ff ?_
    refine mN ?_
    refine ff ?_
    refine aq (.inl rfl) (kj rfl rfl) (fun w hw=> ?_)
    exact⟨congrArg (fun b=>Ending.returned (Value.bool b)) ((decide_eq_false (QN hr hq (by simpa using h2))).symm),hw.sub (List.nil_sublist _)⟩
   ·
    refine fT ?_
    refine o8 ?_
    refine aN ?_
    refine aZ ?_
    refine ag (aD rfl) ?_
    refine ag (pR rfl rfl (by omega)) ?_
    refine ag (bl rfl) ?_
    refine aX ?_
    exact bx (i+1) ⟨by omega,fun j hj=>if e:j=i then(by subst e;rw[hr,hq];simpa using h2)else aF j (by omega)⟩ (by omega) (Sub.cons rfl (Sub.cons rfl (Sub.cons rfl (Sub.nil _)))) (fun w hw=>hw)
  ·
   simp only[decide_eq_false_iff_not]at h1
   refine rU ?_
   refine l8 ?_
   refine l8 ?_
   refine rV ?_
   refine aN ?_
   refine aO ?_
   refine aZ ?_
   refine ag (bl rfl) ?_
   refine aX ?_
   refine aN ?_
   refine eC ?_
   refine aq (.inl rfl) (kj rfl rfl) (fun w hw=> ?_)
   exact⟨congrArg (fun b=>Ending.returned (Value.bool b)) ((decide_eq_true (QO (by omega) (fun j hj=>aF j (by omega)))).symm),hw.sub (List.nil_sublist _)⟩
open Go.aC Go.Kb
instance ah9{w0:World}{L:List ai}{s:Sv}{ss:List Rt}[h:c0 w0 L ay 19 s ss]:cB Tryz.prog 39 w0 L [s.val] (.bool (dr ss)) True:=⟨fun _ w hw=>XE w s ss (h.h w hw)⟩
instance aia{w0:World}{L:List ai}{s t:Sv}{ss ts:List Rt}[h:c0 w0 L ay 19 s ss][h2:c0 w0 L ay 19 t ts]:cB Tryz.prog 36 w0 L [s.val,t.val] (.bool (decide (ss=ts))) (ss.length<9223372036854775807):=⟨fun hp w hw=>XF w s t ss ts (h.h w hw) (h2.h w hw) hp⟩
open Go.aC Go.Kb
instance:bu c6 18:=⟨oq,fun p=>(inferInstance:fW (c6 p) 18).one⟩
theorem XG(w:World)(b2 b3:Nat)(s:Sv)(ss:List Rt)(q:dh)(j:Nat)(h2:bQ qS 1 (hp w) ⟨false,b2,0,1,1,none⟩ [s])(h3:bQ c6 18 (hp w) ⟨false,b3,0,1,1,none⟩ [q])(hs:bQ ay 19 (hp w) s ss)(hj:j<ss.length):Calls Tryz.prog 118 #[.int .i64 (j:Nat), .pointer (some ⟨b2,0,none⟩), .pointer (some ⟨b3,0,none⟩)] w fun e w'=>e= .returned (.bool (behind ss q j))∧Mem w [] w':=by
 have g2:Gv w ⟨false,b2,0,1,1,none⟩ qS 1 [s]:=⟨h2⟩
 have g3:Gv w ⟨false,b3,0,1,1,none⟩ c6 18 [q]:=⟨h3⟩
 have gs:Gv w s ay 19 ss:=⟨hs⟩
 refine ba (args:=[_,_,_]) Tryz.func118 rfl Tryz.ntmps118 rfl ?_
 change Cw _ _ _ _ _ [(0, .int .i64 (j:Nat)),(1, .pointer (some ⟨b2,0,none⟩)),(2, .pointer (some ⟨b3,0,none⟩))] []
 refine Gc ?_
 refine Gs ?_
 refine Gc ?_
 refine gO (by kernel_rfl) (by kernel_rfl) ?_
 refine bc (bL (s:=⟨false,b2,0,1,1,none⟩) (enc:=qS) (c:=1) (xs:=[s]) (a:=s) (j:=0) (v:=s.val) rfl 0 rfl rfl (by decide)) ?_
 refine Gq ?_
 obtain⟨r,hr⟩:=get_some (xs:=ss) (i:=j) (by omega)
 refine bc (bg rfl rfl j rfl (by omega)) ?_
 refine bc (aH rfl rfl) ?_
 refine bc (IJ (j:=0) rfl j hr rfl (by decide)) ?_
 refine bc (gG (s:=⟨false,b3,0,1,1,none⟩) (enc:=c6) (c:=18) (xs:=[q]) (a:=q) rfl 0 rfl rfl) ?_
 refine sW (cC rfl trivial) ?_
 iterate 2 refine Gq ?_
 refine Gc ?_
 refine aq (.inl rfl) (aI rfl (ak rfl)) (fun w1 hw=> ?_)
 exact⟨congrArg (fun b=>Ending.returned (Value.bool b)) ((by simp only[behind,hr])),ah.mem hw⟩
theorem XH(w:World)(n:Nat)(p:Nat→Bool)(f:FuncId)[hf:aQ Tryz.prog f](jQ:Array Value)(hF: ∀w',Mem w [] w'→ ∀j:Nat,j<n→Calls Tryz.prog f ([Value.int .i64 (j:Nat)]++jQ.toList).toArray w' fun e n7=>e= .returned (.bool (p j))∧Mem w' [] n7)(hn:n≤1000000000):Calls Tryz.prog 117 #[.int .i64 (n:Nat), .func (.func f) #[] jQ] w fun e w'=>e= .returned (.int .i64 (bs p n:Nat))∧Mem w [] w':=by
 refine ba (args:=[_,_]) Tryz.func117 rfl Tryz.ntmps117 rfl ?_
 change Cw _ _ _ _ _ [(0, .int .i64 (n:Nat)),(1, .func (.func f) #[] jQ)] []
 refine Gc ?_
 refine Gs ?_
 refine Gc ?_
 iterate 3 refine Gs ?_
 refine Gc ?_
 refine ca (X:=Nat×Nat) (fun zz=>[(5, .int .i64 (zz.1:Nat)),(6, .int .i64 (zz.2:Nat)),(1, .func (.func f) #[] jQ)]) (fun zz=>[]) (fun zz=>zz.1≤zz.2∧zz.2≤n∧kE p (n+1) zz.1 zz.2=bs p n) (fun zz=>zz.2 -zz.1) (0,n) ⟨Nat.zero_le _,Nat.le_refl _,rfl⟩ (Sub.cons rfl (Sub.cons rfl (Sub.cons rfl (Sub.nil _)))) (fun w hw=>ah.mem hw) ?_
 rintro⟨i,j⟩ ⟨bh,aF,bt⟩
 dsimp only
 simp only at bh aF bt
 refine Gc ?_
 iterate 3 refine Gs ?_
 refine Gc ?_
 refine au rfl (fun h0=> ?_) (fun h0=> ?_)
 ·
  replace h0:=bz h0
  refine Gc ?_
  iterate 3 refine Gs ?_
  refine ag (pS (n:=i+j) rfl (by simp only[nb];omega)) ?_
  refine ag (uw (p:=i+j) rfl rfl (by simp only[nb];omega) (by omega)) ?_
  refine ag (pS (n:=(i+j)/2^1) rfl (by simp only[nb];omega)) ?_
  refine Gs ?_
  refine Gc ?_
  iterate 2 refine Gs ?_
  refine fy (Cs rfl rfl (fun w1 l6=>hF w1 l6 ((i+j)/2) (by omega))) ?_
  refine Gs ?_
  refine Gc ?_
  refine au rfl (fun h1=> ?_) (fun h1=> ?_)
  ·
   replace h1:=bz h1
   refine Gi ?_
   iterate 3 refine Gs ?_
   iterate 2 refine Gi ?_
   exact bx (x:=(i,j)) ((i+j)/2+1,j) ⟨by first|omega|(simp only[];omega),aF,by rw[←bt,Ll (show i<j by first|omega|(simp only[];omega)) (by first|omega|(simp only[];omega)),if_neg (by rw[h1];simp)]⟩ (by simp only;omega) (Sub.cons rfl (Sub.cons rfl (Sub.cons rfl (Sub.nil _)))) (fun w hw=>ah.mem hw)
  ·
   replace h1:=bz h1
   refine Gi ?_
   iterate 2 refine Gs ?_
   iterate 2 refine Gi ?_
   exact bx (x:=(i,j)) (i,(i+j)/2) ⟨by first|omega|(simp only[];omega),by first|omega|(simp only[];omega),by rw[←bt,Ll (show i<j by first|omega|(simp only[];omega)) (by first|omega|(simp only[];omega)),if_pos h1]⟩ (by simp only;omega) (Sub.cons rfl (Sub.cons rfl (Sub.cons rfl (Sub.nil _)))) (fun w hw=>ah.mem hw)
 ·
  replace h0:=bz h0
  refine Gc ?_
  iterate 2 refine Gs ?_
  refine Gc ?_
  refine aq (.inl rfl) (aI rfl (ak rfl)) (fun w1 hw=> ?_)
  exact⟨congrArg (fun b=>Ending.returned (Value.int .i64 b)) ((by rw[←bt,TF (by omega) (by omega)])),ah.mem hw⟩
theorem XI(w:World)(t:Sv)(ts:List Rt)(p:dh)(ht:bQ ay 19 (hp w) t ts)(bb:ts.length≤1000000):Calls Tryz.prog 80 #[t.val, .agg (c6 p)] w fun e w'=>e= .returned (.tuple #[.int .i64 ((cK ts p:Nat):Int), .bool (kF ts p)])∧Mem w [] w':=by
 have CA:Gv w t ay 19 ts:=⟨ht⟩
 refine ba (args:=[_,_]) Tryz.func80 rfl Tryz.ntmps80 rfl ?_
 change Cw _ _ _ _ _ [(0,t.val),(1, .agg (c6 p))] []
 refine Gc ?_
 refine DP rfl fun b2=> ?_
 refine bX rfl fun b3=> ?_
 iterate 2 refine Gs ?_
 refine Gc ?_
 iterate 2 refine Gs ?_
 refine ag (F0 (vs:=[.pointer (some ⟨b2,0,none⟩), .pointer (some ⟨b3,0,none⟩)]) rfl) ?_
 refine fy (AM (v:= .int .i64 (cK ts p:Nat)) rfl (fun w1 l6=>XH (f:=118) w1 ts.length (behind ts p) #[.pointer (some ⟨b2,0,none⟩), .pointer (some ⟨b3,0,none⟩)] (fun w2 eL j hj=>XG w2 b2 b3 t ts p j ((AW (b:=b2) (cs:=t.val.cells) (enc:=qS) (xs:=[t]) (n:=1) (by rw[Sv.iU];rfl) rfl (by decide) w1 l6).mono eL.below) ((AW (b:=b3) (cs:=c6 p) (enc:=c6) (c:=18) (xs:=[p]) (n:=1) (by simp[aK]) rfl (by decide) w1 l6).mono eL.below) (((inferInstance:Hd w _ t ay 19 ts).h w1 l6).mono eL.below) hj) (by omega))) ?_
 refine Gs ?_
 refine Gc ?_
 refine gO (by kernel_rfl) (by kernel_rfl) ?_
 iterate 6 refine Gq ?_
 refine fC rfl rfl rfl (fun hg=>(Ry.yl (bH rfl))) ?_
 refine Gh ?_
 refine fC rfl rfl rfl (fun hg=>(Ry.yl (bg (aG hg rfl) (aG hg rfl) (cK ts p) rfl (by simp only[Z0,Z1,Z2,Z3,Z4,Z5,Z6,Z7,Z8,Z9]at hg;omega)))) ?_
 refine fC rfl rfl rfl (fun hg=>(Ry.yl (aH (aG hg rfl) rfl))) ?_
 refine fC rfl rfl rfl (fun hg=>(Ry.yl (IJ (j:=0) (aG hg rfl) (cK ts p) (oh (xs:=ts) (i:=(cK ts p)) (d:=jm) (by simp only[Z0,Z1,Z2,Z3,Z4,Z5,Z6,Z7,Z8,Z9]at hg;omega)) rfl (by decide)))) ?_
 refine fC rfl rfl rfl (fun hg=>(Ry.yl (fI rfl))) ?_
 refine fC rfl rfl rfl (fun hg=>(Ry.yl (Im (aG hg rfl) (aG hg rfl)))) ?_
 iterate 3 refine Gq ?_
 refine Gc ?_
 refine aq (.inl rfl) (bm rfl (ak rfl) (ak rfl)) (fun w1 hw=> ?_)
 exact⟨(by rw[TH]),ah.mem hw⟩
instance aib{w0:World}{L:List ai}{t:Sv}{ts:List Rt}{p:dh}[ht:c0 w0 L ay 19 t ts]:cB Tryz.prog 80 w0 L [t.val, .agg (c6 p)] (.tuple #[.int .i64 ((cK ts p:Nat):Int), .bool (kF ts p)]) (ts.length≤1000000):=⟨fun hp w hw=>XI w t ts p (ht.h w hw) hp⟩
theorem XJ(w:World)(t:Sv)(ts:List Rt)(k:Key)(bits:Int)(ht:bQ ay 19 (hp w) t ts):Calls Tryz.prog 37 #[t.val, .agg (cW k), .int .i64 bits] w fun e w'=>e= .returned (.tuple #[.agg (ay (u7 ts k bits)), .int .i64 (u9 ts k bits)])∧Mem w [] w':=by
 have CA:Gv w t ay 19 ts:=⟨ht⟩
 refine ba (args:=[_,_,_]) Tryz.func37 rfl Tryz.ntmps37 rfl ?_
 change Cw _ _ _ _ _ [(0,t.val),(1, .agg (cW k)),(2, .int .i64 bits)] []
 refine Gc ?_
 refine bX rfl fun b4=> ?_
 refine bK fun b6=> ?_
 refine Gs ?_
 refine Gc ?_
 iterate 4 refine Gs ?_
 iterate 2 refine Gg ?_
 refine bZ rfl rfl rfl (fun hg=>(Ry.yl (fI rfl))) ?_
 refine bZ rfl rfl rfl (fun hg=>(Ry.yl (sS (ym (aG hg rfl) (ym (aG hg rfl) (ym (aG hg rfl) Ip)))))) ?_
 refine bZ rfl rfl rfl (fun hg=>cC (dA (aG hg rfl) gE) trivial) ?_
 refine bZ rfl rfl rfl (fun hg=>(Ry.yl (iR (aG hg rfl)))) ?_
 refine Gs ?_
 refine Gc ?_
 refine au rfl (fun h0=> ?_) (fun h0=> ?_)
 ·
  replace h0:=bz h0
  have hk:wY ts k bits=false:=by rw[wY];rcases h0 with h|h;rw[h];rfl;rw[h];simp
  refine Gc ?_
  refine ag (sS rfl) ?_
  iterate 2 refine Gs ?_
  refine Gc ?_
  refine aq (.inl rfl) (bm rfl (cc rfl) (ak rfl)) (fun w1 hw=> ?_)
  exact⟨(by rw[u7,if_neg (by rw[hk];simp),u9,if_neg (by rw[hk];simp)]),ah.mem hw⟩
 ·
  replace h0:=bz h0
  have hr:dr ts=true:=by simpa using h0.1
  have hk:wY ts k bits=true:=by rw[wY,hr];simpa using h0.2
  have hlen:=Bw hr
  have hb:bits=32∨bits=128:=((A6 _).1 (by simpa using h0.2:c5 ⟨bits,bits,k⟩=true)).1
  refine Gc ?_
  iterate 2 refine Gs ?_
  refine Gc ?_
  refine ca (X:=Int) (fun zz=>[(8, .int .i64 zz),(0,t.val),(2, .int .i64 bits),(4, .pointer (some ⟨b4,0,none⟩)),(6, .pointer (some ⟨b6,0,none⟩))]) (fun zz=>[ar b6 (ay jm) 68,ar b4 (cW k) 56]) (fun zz=> -1≤zz∧zz≤bits∧(zz<0→ry ts k bits bits.toNat=none)∧(∀m:Nat,zz=m→ry ts k bits bits.toNat=ry ts k bits m)) (fun zz=>(zz+1).toNat) bits ⟨by first|omega|(simp only[];omega),Int.le_refl _,fun h=>by first|omega|(simp only[];omega),fun m h=>by rw[h];rfl⟩ (Sub.cons rfl (Sub.cons rfl (Sub.cons rfl (Sub.cons rfl (Sub.cons rfl (Sub.nil _)))))) (fun w hw=>ah.mem hw) ?_
  rintro n ⟨tP,xi,tL,GZ⟩
  refine Gc ?_
  iterate 2 refine Gs ?_
  refine Gc ?_
  refine au rfl (fun h1=> ?_) (fun h1=> ?_)
  ·
   replace h1:=bz h1
   obtain⟨m,rfl⟩: ∃m:Nat,n=(m:Int):=⟨n.toNat,by omega⟩
   refine Gc ?_
   iterate 5 refine Gs ?_
   refine ag (sS rfl) ?_
   refine bK fun b9=> ?_
   refine Gs ?_
   refine Gc ?_
   iterate 2 refine Gs ?_
   refine fy (cC rfl (by omega)) ?_
   refine Gs ?_
   refine ag (aV (v:= .int .i64 ((cK ts (⟨bits,((m:Nat):Int),(hQ k ((m:Nat):Int))⟩:dh):Nat):Int)) rfl rfl) ?_
   refine ag (aV (v:= .bool (kF ts (⟨bits,((m:Nat):Int),(hQ k ((m:Nat):Int))⟩:dh))) rfl rfl) ?_
   iterate 2 refine Gs ?_
   refine Gc ?_
   refine Gs ?_
   refine Gc ?_
   refine au rfl (fun h2=> ?_) (fun h2=> ?_)
   ·
    replace h2:=bz h2
    have CS: ∃r,ts[cK ts ⟨bits,m,hQ k m⟩]? =some r∧wX ts k bits m=some r:=by obtain⟨r,_,h8,_⟩:=zl h2;exact⟨r,h8,by rw[wX,if_pos h2,h8]⟩
    obtain⟨r,gA,zA⟩:=CS
    have sJ:ry ts k bits bits.toNat=some r:=by rw[GZ m rfl];cases m with|zero=>exact zA|succ m=>rw[ry,zA]
    refine Gc ?_
    iterate 2 refine Gs ?_
    refine ag (bg rfl rfl (cK ts ⟨bits,m,hQ k m⟩) (by omega) (List.getElem?_eq_some_iff.1 gA).1) ?_
    refine ag (gG rfl (cK ts ⟨bits,m,hQ k m⟩) gA rfl) ?_
    iterate 2 refine Gs ?_
    refine Gc ?_
    refine aq (.inl rfl) (bm rfl (cc rfl) (ak rfl)) (fun w1 hw=> ?_)
    exact⟨(by rw[u7,if_pos hk,u9,if_pos hk,sJ];rfl),ah.mem hw⟩
   ·
    replace h2:=bz h2
    have CS:wX ts k bits m=none:=by rw[wX,if_neg (by rw[h2];simp)]
    refine Gc ?_
    iterate 3 refine Gs ?_
    refine Gi ?_
    exact bx (x:=((m:Nat):Int)) ((m:Int) -1) ⟨by first|omega|(simp only[];omega),by first|omega|(simp only[];omega),fun h=>by obtain rfl:m=0:=(by first|omega|(simp only[];omega));rw[GZ 0 rfl];exact CS,fun m2 h=>by obtain rfl:m=m2+1:=(by first|omega|(simp only[];omega));rw[GZ _ rfl,ry,CS]⟩ (by first|omega|(simp only[];omega)) (Sub.cons rfl (Sub.cons rfl (Sub.cons rfl (Sub.cons rfl (Sub.cons rfl (Sub.nil _)))))) (fun w hw=>ah.mem hw)
  ·
   replace h1:=bz h1
   have rF:ry ts k bits bits.toNat=none:=tL (by omega)
   refine Gc ?_
   refine ag (sS rfl) ?_
   iterate 2 refine Gs ?_
   refine Gc ?_
   refine aq (.inl rfl) (bm rfl (cc rfl) (ak rfl)) (fun w1 hw=> ?_)
   exact⟨(by rw[u7,if_pos hk,u9,if_pos hk,rF];rfl),ah.mem hw⟩
instance aic{w0:World}{L:List ai}{t:Sv}{ts:List Rt}{k:Key}{bits:Int}[ht:c0 w0 L ay 19 t ts]:cB Tryz.prog 37 w0 L [t.val, .agg (cW k), .int .i64 bits] (.tuple #[.agg (ay (u7 ts k bits)), .int .i64 (u9 ts k bits)]) (True):=⟨fun hp w hw=>XJ w t ts k bits (ht.h w hw)⟩
open Go.aC Go.Kb
theorem XK(w:World)(s:Sv)(ss:List Rt)(hs:bQ ay 19 (hp w) s ss)(bb:ss.length≤1000000):Calls Tryz.prog 73 #[s.val] w fun e w'=> ∃zz:Sv,e= .returned (zz.val)∧(True)∧Mem w [own ay 19 zz ss] w':=by
 have ve:Gv w s ay 19 ss:=⟨hs⟩
 refine ba (args:=[_]) Tryz.func73 rfl Tryz.ntmps73 rfl ?_
 change Cw _ _ _ _ _ [(0,s.val)] []
 refine Gc ?_
 refine Gs ?_
 refine Gc ?_
 refine Gs ?_
 refine ag (rX Tryz.underlying52 rfl) ?_
 refine Gc ?_
 refine au rfl (fun h0=> ?_) (fun h0=> ?_)
 ·
  replace h0:=bz h0
  have e0:ss=[]:=List.length_eq_zero_iff.1 (by have:=hs.ok.nil h0;have:=hs.len;omega)
  refine Gc ?_
  refine Gs ?_
  refine Gc ?_
  refine aq (.inl rfl) (aI rfl (ak rfl)) (fun w1 hw=> ?_)
  exact⟨Sv.none,rfl,trivial,by rw[e0];exact(ah.mem hw:Mem w [] _).dP ay 19⟩
 ·
  replace h0:=bz h0
  refine Gc ?_
  refine tc ay fun b5=> ?_
  refine Gs ?_
  refine mg (s:=⟨false,b5,0,0,0,none⟩) (ys:=ss) rfl rfl (by decide) (fun w hw=>kN (s:=s) Tryz.underlying52 (by decide) ((inferInstance:Hd _ _ s ay 19 ss).h w hw)) (by simp only[List.length_append,List.length_cons,List.length_nil];omega) (by simp only[List.length_append,List.length_cons,List.length_nil];omega) fun s7 vf tF=> ?_
  refine Gs ?_
  refine Gc ?_
  refine aq (.inl rfl) (aI rfl (ak rfl)) (fun w1 hw=> ?_)
  exact⟨s7,rfl,trivial,by simpa using hw⟩
instance aid{w0:World}{L:List ai}{s:Sv}{ss:List Rt}[hs:c0 w0 L ay 19 s ss]:cl Tryz.prog 73 w0 L [s.val] (Sv) (fun zz=>zz.val) (fun zz=>own ay 19 zz ss::L) (fun zz=>True) (ss.length≤1000000):=⟨fun hp w hw=>(XK w s ss (hs.h w hw) hp).mono fun e w' ⟨x,h1,h2,h3⟩=>⟨x,h1,h2,hw.call h3⟩⟩
open Go.aC Go.Kb
instance:JC Tryz.prog 141 52 4:=⟨⟨Tryz.f141,Tryz.func141,by kernel_rfl,by kernel_rfl,by kernel_rfl,by kernel_rfl⟩⟩
theorem XL(w0 w:World)(L:List ai)(s:Sv)(ss:List Rt)(n:Nat)(m:Nat)(hw:Mem w0 (own ay 19 s ss::L) w)(bb:n≤m∧m≤ss.length):Calls Tryz.prog 111 #[s.val, .int .i64 (n:Nat), .int .i64 (m:Nat)] w fun e w'=> ∃zz:Sv,e= .returned (zz.val)∧(True)∧Mem w0 (own ay 19 zz (ss.take n++ss.drop m)::L) w':=by
 obtain⟨kG,iK⟩:=bb
 refine kl (args:=[_,_,_]) Tryz.func111 rfl Tryz.ntmps111 rfl hw ?_
 change Cw _ _ _ _ _ [(0,s.val),(1, .int .i64 (n:Nat)),(2, .int .i64 (m:Nat))] (own ay 19 s ss::L)
 refine Gc ?_
 refine Gs ?_
 refine Gc ?_
 iterate 5 refine Gs ?_
 refine ag (JA (l:=n) (h:=m) (m:=ss.length) rfl rfl rfl rfl rfl rfl rfl (by omega) (by omega) (by omega)) ?_
 refine Gc ?_
 iterate 3 refine Gs ?_
 refine Gc ?_
 refine au rfl (fun h0=> ?_) (fun h0=> ?_)
 ·
  replace h0:=bz h0
  obtain rfl:n=m:=by omega
  refine Gc ?_
  iterate 2 refine Gs ?_
  refine Gc ?_
  refine aq (.inl rfl) (aI rfl (ak rfl)) (fun w1 hw=> ?_)
  exact⟨s,rfl,trivial,by rw[List.take_append_drop];exact hw⟩
 ·
  replace h0:=bz h0
  iterate 3 refine Gi ?_
  refine Ql s fun aie=> ?_
  have bp:n<m:=by omega
  refine Jw (s:=s) inferInstance (by decide) (by omega) fun pre mid T bU uB mV gq bP nF=> ?_
  have hle:=bP.le
  have iJ:=bP.bd
  have xI:(aK ay (ss.drop m)).length=(ss.length -m)*19:=by rw[gQ,List.length_drop]
  have MM:(aK ay (ss.take n)).length=n*19:=by rw[gQ,List.length_take];congr 1;omega
  have sq:(aK ay ss).length=ss.length*19:=gQ ss
  have XM:aK ay ss=aK ay (ss.take m)++aK ay (ss.drop m):=by rw[←uQ,List.take_append_drop]
  have hlm:(aK ay (ss.take m)).length=m*19:=by rw[gQ,List.length_take];congr 1;omega
  obtain⟨X,hX⟩: ∃X,aK ay ss=aK ay (ss.take n)++X:=⟨aK ay (ss.drop n),by rw[←uQ,List.take_append_drop]⟩
  have hXl:n*19+X.length=ss.length*19:=by rw[←sq,hX,List.length_append,MM]
  obtain⟨r1,gA⟩: ∃r:Sv,r=(⟨false,s.b,s.o,n+(ss.length -m),s.cap,none⟩:Sv):=⟨_,rfl⟩
  refine Gi ?_
  refine Gs ?_
  refine ag (sY rfl bP nF) ?_
  refine Gs ?_
  iterate 3 refine Gi ?_
  refine uy 6 [] (by kernel_rfl) (by kernel_rfl) ?_
  simp only[List.take_succ_cons,List.take_zero]
  iterate 2 refine Gq ?_
  have Mc:Rg 0 n ss.length:=⟨by omega⟩
  refine bc (sZ (h:=n) rfl rfl rfl bP (by omega)) ?_
  iterate 2 refine Gq ?_
  have VY:Rg m ss.length ss.length:=⟨by omega⟩
  refine bc (qQ (l:=m) (n:=ss.length) rfl rfl rfl bP nF (by omega)) ?_
  refine sU ?_
  refine sV ?_
  simp only[List.drop_succ_cons,List.drop_zero]
  refine Ru (D:=s.sub 19 0 n) (S:=s.sub 19 m ss.length) (b:=s.b) (o:=s.o+n*19) (n:=ss.length -m) (vs:=aK ay (ss.drop m)) (R:=r1) (cs':=(pre++(aK ay (ss.take n)++(aK ay (ss.drop m)++(X++mid).drop (aK ay (ss.drop m)).length))).toArray) rfl rfl mV gq rfl (by rw[Sv.yQ];rfl) mV gq rfl rfl xI (by show n -0+_≤s.cap -0;omega) (fun w hw j v hj=>by
   have jj:=(List.getElem?_eq_some_iff.1 hj).1
   rw[xI]at jj
   rw[Sv.ti (by omega)]
   show w.cell? ⟨s.b,_,none⟩=_
   rw[hw.cell (inferInstance:Has _ s.b _ _ _).h,List.getElem?_toArray,List.getElem?_append_right (by omega),List.getElem?_append_left (by omega),XM,List.getElem?_append_right (by omega),←hj]
   congr 1;omega) (s0 _) (by simp only[List.size_toArray,List.length_append];omega) (by rw[hX,List.append_assoc,←List.append_assoc pre,wq (by rw[List.length_append];omega),List.append_assoc]) (by rw[gA,Sv.yQ];rfl) ?_
  refine Gs ?_
  refine Gc ?_
  iterate 2 refine Gs ?_
  refine ag (sY (n:=n+(ss.length -m)) (s:=r1) rfl (by rw[gA];exact⟨(fun h=>by cases h),by simp only;omega,by simp only;omega,fun _=>rfl⟩) (by rw[gA])) ?_
  refine Gs ?_
  refine ag (AT (s:=r1) (l:=n+(ss.length -m)) (h:=ss.length) rfl rfl rfl rfl rfl (by rw[gA];exact⟨(fun h=>by cases h),by simp only;omega,by simp only;omega,fun _=>rfl⟩) (by omega) (by rw[gA];simp only;omega)) ?_
  refine Rw (D:=r1.sub 19 (n+(ss.length -m)) ss.length) (b:=s.b) (o:=s.o+(n+(ss.length -m))*19) (n:=m -n) (z:= .agg (ay jm)) rfl (by rw[gA];rfl) (by rw[gA];rfl) (by rw[gA];rfl) (by rw[gA,Sv.ti (by show _<s.cap;omega)]) (by show ss.length -(n+(ss.length -m))=_;omega) (by omega) (show(ay jm).all (·.oneCell')=true from(inferInstance:bu ay 19).one jm) (by simp only[List.size_toArray,List.length_append,List.length_drop];omega) fun Z hZ=> ?_
  refine Gc ?_
  iterate 2 refine Gs ?_
  refine Gc ?_
  refine aq (.inl rfl) (aI rfl (ak rfl)) (fun w1 hw=> ?_)
  refine⟨r1,rfl,trivial,?_⟩
  rw[show(pre++(aK ay (ss.take n)++(aK ay (ss.drop m)++(X++mid).drop (aK ay (ss.drop m)).length)))=(pre++(aK ay (ss.take n)++aK ay (ss.drop m)))++(X++mid).drop (aK ay (ss.drop m)).length from by simp only[List.append_assoc],wq (A:=pre++(aK ay (ss.take n)++aK ay (ss.drop m))) (by simp only[List.length_append];omega),←uQ,List.append_assoc pre]at hw
  have eL:=Ey (enc:=ay) (i:=0) (xs:=ss.take n++ss.drop m) (pre:=pre) hw rfl r1 (by rw[gA];exact⟨(fun h=>by cases h),by simp only;omega,by simp only;omega,fun _=>rfl⟩) (by rw[gA]) (by rw[gA]) (by rw[gA]) (by rw[gA];exact bU.symm) (by rw[gA];simp only[List.length_append,List.length_take,List.length_drop];omega) (by rw[gA];simp only[List.length_append,List.length_take,List.length_drop];omega)
  exact eL
instance aif{w0:World}{L R:List ai}{i:Nat}{s:Sv}{ss:List Rt}{n:Nat}{m:Nat}[q:fD L s ay 19 ss i][d:dq L i R]:cl Tryz.prog 111 w0 L [s.val, .int .i64 (n:Nat), .int .i64 (m:Nat)] (Sv) (fun zz=>zz.val) (fun zz=>own ay 19 zz (ss.take n++ss.drop m)::R) (fun zz=>True) (n≤m∧m≤ss.length):=⟨fun hp w hw=>XL w0 w R s ss n m (FZ q.h d.h hw) hp⟩
theorem XN(w0 w:World)(L:List ai)(s:Sv)(ss:List Rt)(v:Sv)(r:Rt)(n:Nat)(hw:Mem w0 (own ay 19 s ss::own ay 19 v [r]::L) w)(bb:n≤ss.length∧ss.length≤1000000):Calls Tryz.prog 112 #[s.val, .int .i64 (n:Nat),v.val] w fun e w'=> ∃zz:Sv,e= .returned (zz.val)∧(True)∧Mem w0 (own ay 19 zz (ss.take n++r::ss.drop n)::L) w':=by
 obtain⟨kG,iK⟩:=bb
 refine kl (args:=[_,_,_]) Tryz.func112 rfl Tryz.ntmps112 rfl hw ?_
 change Cw _ _ _ _ _ [(0,s.val),(1, .int .i64 (n:Nat)),(2,v.val)] (own ay 19 s ss::own ay 19 v [r]::L)
 refine Gc ?_
 refine Gs ?_
 refine Gc ?_
 iterate 2 refine Gs ?_
 have XO:Rg n ss.length ss.length:=⟨by omega⟩
 refine ag (AY rfl rfl n rfl XO.h.1) ?_
 refine Gc ?_
 refine Gs ?_
 refine ag (Ry.to (v':= .int .i64 (1:Nat)) (lg rfl) rfl) ?_
 refine Gs ?_
 refine Gc ?_
 iterate 2 refine Gs ?_
 refine Gc ?_
 refine au rfl (fun h0=> ?_) (fun h0=> ?_)
 ·
  replace h0:=bz h0
  exfalso;omega
 ·
  replace h0:=bz h0
  refine Gc ?_
  iterate 3 refine Gs ?_
  refine Gc ?_
  iterate 3 refine Gs ?_
  refine Gc ?_
  refine au rfl (fun h1=> ?_) (fun h1=> ?_)
  ·
   replace h1:=bz h1
   refine Gc ?_
   iterate 2 refine Gs ?_
   refine mg (s:=s) (ys:=[r]) rfl rfl (by decide) (fun w hw=>kN (s:=v) Tryz.underlying52 (by decide) ((inferInstance:Hd _ _ v ay 19 [r]).h w hw)) (by simp only[List.length_cons,List.length_nil];omega) (by simp only[List.length_cons,List.length_nil];omega) fun XP aih aii=> ?_
   refine Gs ?_
   refine Gc ?_
   refine aq (.inl rfl) (aI rfl (ak rfl)) (fun w1 hw=> ?_)
   exact⟨XP,rfl,trivial,by rw[List.take_of_length_le (by omega),List.drop_of_length_le (by omega)];exact ah.mem hw⟩
  ·
   replace h1:=bz h1
   iterate 4 refine Gi ?_
   have bp:n<ss.length:=by omega
   refine Bp (s:=v) (enc:=ay) inferInstance (by simp) fun MN vJ aij xp=> ?_
   have MO:v.len=1:=xp
   refine Jw (s:=s) inferInstance (by decide) (by omega) fun pre mid T bU uB mV gq bP nF=> ?_
   have hle:=bP.le
   have iJ:=bP.bd
   obtain⟨x,hx⟩:=get_some (xs:=ss) (i:=n) (by omega)
   have hA:(aK ay (ss.take n)).length=n*19:=by rw[gQ,List.length_take];congr 1;omega
   have hB:(aK ay (ss.drop n)).length=(ss.length -n)*19:=by rw[gQ,List.length_drop]
   have nY:(aK ay [r]).length=19:=by rw[gQ];rfl
   have zT:(aK ay [x]).length=19:=by rw[gQ];rfl
   have vt:aK ay ss=(aK ay (ss.take n))++(aK ay (ss.drop n)):=by rw[←uQ,List.take_append_drop]
   have MP:(aK ay (ss.drop n))=(aK ay [x])++(aK ay (ss.drop (n+1))):=by rw[←uQ,List.drop_eq_getElem_cons bp,show ss[n]=x from(List.getElem?_eq_some_iff.1 hx).2];rfl
   have sq:(aK ay ss).length=ss.length*19:=gQ ss
   have xw:aK ay (ss.take n++r::ss.drop n)=(aK ay (ss.take n))++((aK ay [r])++(aK ay (ss.drop n))):=by rw[uQ,←uQ [r]];rfl
   have CT:(ss.take n++r::ss.drop n).length=ss.length+1:=by simp only[List.length_append,List.length_take,List.length_cons,List.length_drop];omega
   have gF: ∀(w1:World) L',Mem w0 (ar s.b (pre++(aK ay ss++mid)).toArray T::L') w1→ ∀j u,(aK ay ss)[j]? =some u→w1.cell? ⟨s.b,s.o+j,none⟩=some u:=fun w1 L' l6 j u hj=>Rp l6 bU hj
   refine Gi ?_
   iterate 4 refine Gs ?_
   refine ag (Rx (n:=s.cap) rfl mV rfl) ?_
   refine Gs ?_
   refine Gc ?_
   refine au rfl (fun h2=> ?_) (fun h2=> ?_)
   ·
    replace h2:=bz h2
    refine Gc ?_
    iterate 2 refine Gs ?_
    refine ag (sZ (h:=n) rfl rfl rfl bP (by omega)) ?_
    iterate 5 refine Gs ?_
    refine Rv (D:=s.sub 19 0 n) (k:=ss.length+1 -n) (p:=n) (m:=ss.length+1) (olds:=(aK ay (ss.take n))) rfl (by omega) rfl rfl (by omega) (by omega) mV gq (by decide) Tryz.underlying3 hA (fun w hw j u hj=>by
     have jj:=(List.getElem?_eq_some_iff.1 hj).1
     rw[Sv.yQ]
     exact gF w _ hw j u (by rw[vt,List.getElem?_append_left jj];exact hj)) (by show s.cap -0<n -0+_;omega) (by show(n -0+_)*_≤_;omega) (by show n -0+_≤_;omega) fun tY tZ zU aik ail=> ?_
    refine Gs ?_
    refine Gc ?_
    iterate 2 refine Gs ?_
    refine ag (qQ (s:=(⟨false,tY,0,ss.length+1,tZ,none⟩:Sv)) (l:=n) (n:=ss.length+1) rfl rfl rfl ⟨(fun h=>by cases h),by simp only;omega,by simp only;omega,fun _=>rfl⟩ rfl (by omega)) ?_
    refine Gs ?_
    refine Bq (D:=(⟨false,tY,0,ss.length+1,tZ,none⟩:Sv).sub 19 n (ss.length+1)) (S:=v) (b:=tY) (o:=n*19) (n:=1) (vs:=(aK ay [r])) (cs':=((aK ay (ss.take n))++((aK ay [r])++zU.drop 19)).toArray) rfl rfl rfl rfl rfl (by rw[Sv.ti (by show n<tZ;omega)];exact Nat.zero_add _) MN vJ (by rw[MO];exact Ew (b:=ss.length+1 -n) (by omega)) (by rw[nY]) (fun w hw j u hj=>Jx (enc:=ay) (xs:=[r]) (by decide) inferInstance hw hj) (s0 _) (by simp only[List.size_toArray,List.length_append];omega) (by rw[wq (A:=(aK ay (ss.take n))) hA.symm,nY]) ?_
    iterate 3 refine Gi ?_
    refine uy 8 [] (by kernel_rfl) (by kernel_rfl) ?_
    simp only[List.take_succ_cons,List.take_zero]
    iterate 4 refine Gq ?_
    refine bc (qQ (s:=(⟨false,tY,0,ss.length+1,tZ,none⟩:Sv)) (l:=n+1) (n:=ss.length+1) rfl rfl rfl ⟨(fun h=>by cases h),by simp only;omega,by simp only;omega,fun _=>rfl⟩ rfl (by omega)) ?_
    iterate 2 refine Gq ?_
    refine bc (qQ (l:=n) (n:=ss.length) rfl rfl rfl bP nF (by omega)) ?_
    refine sU ?_
    refine sV ?_
    simp only[List.drop_succ_cons,List.drop_zero]
    refine Bq (D:=(⟨false,tY,0,ss.length+1,tZ,none⟩:Sv).sub 19 (n+1) (ss.length+1)) (S:=s.sub 19 n ss.length) (b:=tY) (o:=(n+1)*19) (n:=ss.length -n) (vs:=(aK ay (ss.drop n))) (cs':=(((aK ay (ss.take n))++(aK ay [r]))++((aK ay (ss.drop n))++(zU.drop 19).drop (aK ay (ss.drop n)).length)).toArray) rfl rfl rfl rfl rfl (by rw[Sv.ti (by show n+1<tZ;omega)];exact Nat.zero_add _) mV gq (Ew (a:=ss.length -n) (b:=ss.length+1 -(n+1)) (by omega)) hB (fun w hw j u hj=>by
     rw[Sv.ti (by omega),Nat.add_assoc]
     exact gF w _ (hw.sub (by first|exact List.Sublist.refl _|exact List.sublist_cons_self _ _)) (n*19+j) u (by rw[vt,List.getElem?_append_right (by omega),hA,Nat.add_sub_cancel_left];exact hj)) (s0 _) (by simp only[List.size_toArray,List.length_append,List.length_drop];omega) (by rw[←List.append_assoc,wq (A:=(aK ay (ss.take n))++(aK ay [r])) (by rw[List.length_append,hA,nY];omega)]) ?_
    refine Gc ?_
    iterate 2 refine Gs ?_
    refine Gc ?_
    refine aq (.inl rfl) (aI rfl (ak rfl)) (fun w1 hw=> ?_)
    refine⟨(⟨false,tY,0,ss.length+1,tZ,none⟩:Sv),rfl,trivial,?_⟩
    rw[show((aK ay (ss.take n))++(aK ay [r]))++((aK ay (ss.drop n))++(zU.drop 19).drop (aK ay (ss.drop n)).length)=[]++(aK ay (ss.take n++r::ss.drop n)++(zU.drop 19).drop (aK ay (ss.drop n)).length)from by rw[xw];simp only[List.append_assoc,List.nil_append]]at hw
    have eL:=Ey (enc:=ay) (i:=0) (xs:=ss.take n++r::ss.drop n) (pre:=[]) (mid:=(zU.drop 19).drop (aK ay (ss.drop n)).length) hw rfl (⟨false,tY,0,ss.length+1,tZ,none⟩:Sv) ⟨(fun h=>by cases h),by simp only;omega,by simp only;omega,fun _=>rfl⟩ rfl rfl rfl rfl (by rw[CT]) (by rw[CT];simp only[List.length_nil,List.length_drop];omega)
    rw[List.set_cons_zero]at eL
    exact ah.mem eL
   ·
    replace h2:=bz h2
    obtain⟨s1,fQ⟩: ∃z:Sv,z=⟨false,s.b,s.o,ss.length+1,s.cap,none⟩:=⟨_,rfl⟩
    refine Gc ?_
    iterate 4 refine Gs ?_
    refine ag (Ry.to (v':=s1.val) (sZ (h:=ss.length+1) rfl rfl rfl bP (by omega)) (by rw[fQ,Sv.sub_eq mV gq])) ?_
    refine Gs ?_
    refine Gc ?_
    iterate 5 refine Gs ?_
    refine ag (qQ (s:=s1) (l:=n+1) (n:=ss.length+1) rfl rfl rfl (by rw[fQ];exact⟨(fun h=>by cases h),by simp only;omega,by simp only;omega,fun _=>rfl⟩) (by rw[fQ]) (by omega)) ?_
    refine ag (Rz (V:=v) (D:=s1.sub 19 (n+1) (ss.length+1)) (b:=s.b) (xs:=[r]) rfl rfl (by decide) (by simp) (by rw[fQ];rfl) (by rw[fQ];rfl) (by rw[fQ];rfl) (by simp only[List.size_toArray,List.length_append];omega)) ?_
    refine Gs ?_
    refine Gc ?_
    refine au rfl (fun h3=> ?_) (fun h3=> ?_)
    ·
     replace h3:=bz h3
     refine Gi ?_
     refine uy 8 [] (by kernel_rfl) (by kernel_rfl) ?_
     simp only[List.take_succ_cons,List.take_zero]
     iterate 4 refine Gq ?_
     refine bc (qQ (s:=s1) (l:=n+1) (n:=ss.length+1) rfl rfl rfl (by rw[fQ];exact⟨(fun h=>by cases h),by simp only;omega,by simp only;omega,fun _=>rfl⟩) (by rw[fQ]) (by omega)) ?_
     iterate 2 refine Gq ?_
     refine bc (qQ (s:=s1) (l:=n) (n:=ss.length+1) rfl rfl rfl (by rw[fQ];exact⟨(fun h=>by cases h),by simp only;omega,by simp only;omega,fun _=>rfl⟩) (by rw[fQ]) (by omega)) ?_
     refine sU ?_
     refine sV ?_
     simp only[List.drop_succ_cons,List.drop_zero]
     refine Bq (D:=s1.sub 19 (n+1) (ss.length+1)) (S:=s1.sub 19 n (ss.length+1)) (b:=s.b) (o:=s.o+(n+1)*19) (n:=ss.length -n) (vs:=(aK ay (ss.drop n))) (cs':=(pre++((aK ay (ss.take n))++((aK ay [x])++((aK ay (ss.drop n))++((aK ay (ss.drop (n+1)))++mid).drop (aK ay (ss.drop n)).length)))).toArray) rfl rfl (by rw[fQ];rfl) (by rw[fQ];rfl) (by rw[fQ];rfl) (by rw[fQ,Sv.ti (by show _<s.cap;omega)]) (by rw[fQ];rfl) (by rw[fQ];rfl) (by rw[show ss.length -n=ss.length+1 -(n+1)from by omega];exact Rn (a:=ss.length+1 -n) (by omega)) hB (fun w hw j u hj=>by
      rw[fQ,Sv.ti (by show _<s.cap;omega),Nat.add_assoc]
      exact gF w _ hw (n*19+j) u (by rw[vt,List.getElem?_append_right (by omega),hA,Nat.add_sub_cancel_left];exact hj)) (s0 _) (by simp only[List.size_toArray,List.length_append];omega) (by
      rw[vt,show pre++(((aK ay (ss.take n))++(aK ay (ss.drop n)))++mid)=(pre++((aK ay (ss.take n))++(aK ay [x])))++((aK ay (ss.drop (n+1)))++mid)from by rw[MP];simp only[List.append_assoc],wq (A:=pre++((aK ay (ss.take n))++(aK ay [x]))) (by simp only[List.length_append];omega)];simp only[List.append_assoc]) ?_
     refine Gc ?_
     iterate 2 refine Gs ?_
     refine ag (qQ (s:=s1) (l:=n) (n:=ss.length+1) rfl rfl rfl (by rw[fQ];exact⟨(fun h=>by cases h),by simp only;omega,by simp only;omega,fun _=>rfl⟩) (by rw[fQ]) (by omega)) ?_
     refine Gs ?_
     refine Bq (D:=s1.sub 19 n (ss.length+1)) (S:=v) (b:=s.b) (o:=s.o+n*19) (n:=1) (vs:=(aK ay [r])) (cs':=(pre++((aK ay (ss.take n))++((aK ay [r])++((aK ay (ss.drop n))++((aK ay (ss.drop (n+1)))++mid).drop (aK ay (ss.drop n)).length)))).toArray) rfl rfl (by rw[fQ];rfl) (by rw[fQ];rfl) (by rw[fQ];rfl) (by rw[fQ,Sv.ti (by show _<s.cap;omega)]) MN vJ (by rw[MO];exact Ew (b:=ss.length+1 -n) (by omega)) (by rw[nY]) (fun w hw j u hj=>Jx (enc:=ay) (xs:=[r]) (by decide) inferInstance hw hj) (s0 _) (by simp only[List.size_toArray,List.length_append];omega) (by
      rw[←List.append_assoc pre,wq (A:=pre++(aK ay (ss.take n))) (by rw[List.length_append];omega),nY,←zT,List.drop_left,List.append_assoc]) ?_
     refine Gc ?_
     iterate 2 refine Gs ?_
     refine Gc ?_
     refine aq (.inl rfl) (aI rfl (ak rfl)) (fun w1 hw=> ?_)
     refine⟨s1,rfl,trivial,?_⟩
     rw[show pre++((aK ay (ss.take n))++((aK ay [r])++((aK ay (ss.drop n))++((aK ay (ss.drop (n+1)))++mid).drop (aK ay (ss.drop n)).length)))=pre++(aK ay (ss.take n++r::ss.drop n)++((aK ay (ss.drop (n+1)))++mid).drop (aK ay (ss.drop n)).length)from by rw[xw];simp only[List.append_assoc]]at hw
     have eL:=Ey (enc:=ay) (i:=0) (xs:=ss.take n++r::ss.drop n) (pre:=pre) (mid:=((aK ay (ss.drop (n+1)))++mid).drop (aK ay (ss.drop n)).length) hw rfl s1 (by rw[fQ];exact⟨(fun h=>by cases h),by simp only;omega,by simp only;omega,fun _=>rfl⟩) (by rw[fQ]) (by rw[fQ]) (by rw[fQ]) (by rw[fQ];exact bU.symm) (by rw[fQ,CT]) (by rw[fQ,CT];have:=congrArg List.length MP;simp only[List.length_append,List.length_drop]at this⊢;omega)
     rw[List.set_cons_zero]at eL
     exact ah.mem eL
    ·
     exfalso;simp at h3
instance aim{w0:World}{L R1 L2:List ai}{i j:Nat}{s:Sv}{ss:List Rt}{v:Sv}{r:Rt}{n:Nat}[h:fD L s ay 19 ss i][d1:dq L i R1][q:fD R1 v ay 19 [r] j][d2:dq R1 j L2]:cl Tryz.prog 112 w0 L [s.val, .int .i64 (n:Nat),v.val] (Sv) (fun zz=>zz.val) (fun zz=>own ay 19 zz (ss.take n++r::ss.drop n)::L2) (fun zz=>True) (n≤ss.length∧ss.length≤1000000):=⟨fun hp w hw=>XN w0 w L2 s ss v r n (sr h.h d1.h q.h d2.h hw) hp⟩
open Go.aC Go.Kb
instance:bu fO 20:=⟨Lt,fun x=>by
 have h:(ay x.r).all (·.oneCell')=true:=bu.one x.r
 rw[fO,Array.all_append,h];simp[Value.oneCell']⟩
instance:Deep Ch:=Deep.flat fO 20
instance:fJ Ch fO 20:=⟨rfl,fun _=>rfl⟩
instance (x:Ch):fW (fO x) 20:=⟨Lt x,bu.one x⟩
instance (x:Ch):ob (fO x) 0 19 (ay x.r):=⟨km _,fun j hj=>by rw[Nat.zero_add];exact Lu x j hj⟩
instance (x:Ch):ob (fO x) 0 18 (c6 x.r.p):=⟨oq _,fun j hj=>by rw[Nat.zero_add];exact(Lu x j (by omega)).trans (ot x.r j hj)⟩
instance (x:Ch):cq (fO x) 19 (.bool x.gone):=⟨TN x⟩
instance (r:Rt):yn Tryz.prog 91 [(0, .agg (ay r))] (.agg (fO ⟨r,false⟩)):=⟨fun w=>by kernel_rfl⟩
instance:fe Tryz.prog 91 (.agg (fO Ls)):=⟨by unfold fO ay c6 Ls jm;rw[zm];kernel_rfl⟩
theorem XQ{cs vs:Array Value}(h:cs.size=vs.size):cP cs 0 vs=vs:=by
 unfold cP;apply Array.ext';simp[←h]
theorem XR(w0 w:World)(L:List ai)(t:Sv)(ts:List Rt)(g:Ch)(hw:Mem w0 (own ay 19 t ts::L) w)(bb:ts.length≤1000):Calls Tryz.prog 74 #[t.val, .agg (fO g)] w fun e w'=> ∃zz:Sv,e= .returned (.tuple #[zz.val, .int .i64 (fq ts g)])∧(True)∧Mem w0 (own ay 19 zz (jy ts g)::L) w':=by
 have MQ:=Lo ts g.r.p
 refine kl (args:=[_,_]) Tryz.func74 rfl Tryz.ntmps74 rfl hw ?_
 change Cw _ _ _ _ _ [(0,t.val),(1, .agg (fO g))] (own ay 19 t ts::L)
 refine Gc ?_
 refine bX rfl fun b3=> ?_
 iterate 2 refine Gs ?_
 refine Gc ?_
 iterate 2 refine Gs ?_
 refine ag (iA rfl) ?_
 iterate 2 refine Gs ?_
 refine Gc ?_
 refine au rfl (fun h0=> ?_) (fun h0=> ?_)
 ·
  replace h0:=bz h0
  have hm:c5 g.r.p=false:=h0
  have he:fq ts g=1:=by rw[fq,if_neg (by rw[hm];simp)]
  refine Gc ?_
  iterate 3 refine Gs ?_
  refine Gc ?_
  refine aq (.inl rfl) (bm rfl (ak rfl) (ak rfl)) (fun w1 hw=> ?_)
  exact⟨t,by rw[he],trivial,by rw[jy,if_neg (by rw[he];decide)];exact ah.mem hw⟩
 ·
  replace h0:=bz h0
  have hm:c5 g.r.p=true:=h0
  refine Gc ?_
  iterate 3 refine Gs ?_
  refine ag (iA rfl) ?_
  refine fy (cC rfl (by omega)) ?_
  refine Gs ?_
  refine ag (aV (v:= .int .i64 ((cK ts g.r.p:Nat):Int)) rfl rfl) ?_
  refine ag (aV (v:= .bool (kF ts g.r.p)) rfl rfl) ?_
  iterate 2 refine Gs ?_
  refine Gc ?_
  iterate 3 refine Gs ?_
  refine Gg ?_
  refine gN rfl rfl rfl (fun hg=>(Ry.yl (iR (aG hg rfl)))) ?_
  iterate 2 refine Gs ?_
  refine Gc ?_
  refine au rfl (fun h1=> ?_) (fun h1=> ?_)
  ·
   replace h1:=bz h1
   have he:fq ts g=6:=by rw[fq,if_pos hm,if_neg (by rw[h1.2];simp),if_pos h1.1]
   refine Gc ?_
   iterate 3 refine Gs ?_
   refine Gc ?_
   refine aq (.inl rfl) (bm rfl (ak rfl) (ak rfl)) (fun w1 hw=> ?_)
   exact⟨t,by rw[he],trivial,by rw[jy,if_neg (by rw[he];decide)];exact ah.mem hw⟩
  ·
   replace h1:=bz h1
   refine Gc ?_
   iterate 3 refine Gs ?_
   refine Gc ?_
   refine au rfl (fun h2=> ?_) (fun h2=> ?_)
   ·
    replace h2:=bz h2
    have hb:kF ts g.r.p=true:=by rcases h1 with h|h;(rw[h2]at h;cases h);exact h
    have he:fq ts g=0:=by rw[fq,if_pos hm,if_pos hb]
    have hl:jy ts g=ts.take (cK ts g.r.p)++ts.drop ((cK ts g.r.p)+1):=by rw[jy,if_pos he,if_pos h2]
    obtain⟨r0,_,nY,_⟩:=zl hb
    have bU:=(List.getElem?_eq_some_iff.1 nY).1
    refine Gc ?_
    iterate 3 refine Gs ?_
    refine ag (Ry.to (v':= .int .i64 (((cK ts g.r.p)+1:Nat):Int)) (pR rfl rfl (by omega)) rfl) ?_
    refine bq rfl ⟨by omega,by omega⟩ fun la MK=> ?_
    iterate 2 refine Gs ?_
    refine Gc ?_
    refine aq (.inl rfl) (bm rfl (ak rfl) (ak rfl)) (fun w1 hw=> ?_)
    exact⟨la,by rw[he],trivial,by rw[hl];exact ah.mem hw⟩
   ·
    replace h2:=bz h2
    refine Gc ?_
    iterate 2 refine Gs ?_
    refine Gc ?_
    refine au rfl (fun h3=> ?_) (fun h3=> ?_)
    ·
     replace h3:=bz h3
     have hb:kF ts g.r.p=true:=h3
     have he:fq ts g=0:=by rw[fq,if_pos hm,if_pos hb]
     have hl:jy ts g=ts.set (cK ts g.r.p) g.r:=by rw[jy,if_pos he,if_neg (by rw[h2];simp),if_pos hb]
     obtain⟨r0,_,nY,_⟩:=zl hb
     have bU:=(List.getElem?_eq_some_iff.1 nY).1
     refine Gc ?_
     iterate 3 refine Gs ?_
     refine ag (iA rfl) ?_
     refine ag (bg rfl rfl (cK ts g.r.p) rfl bU) ?_
     refine kO (n:=19) (k:=(cK ts g.r.p)) (j:=0) (a:=r0) (a':=g.r) (xs:=ts) (enc:=ay) (c:=19) (v:= .agg (ay g.r)) (by kernel_rfl) rfl rfl rfl nY (bu.one g.r) (km g.r) (by decide) (XQ (by rw[km];exact(km g.r).symm)) ?_
     refine Gc ?_
     iterate 3 refine Gs ?_
     refine Gc ?_
     refine aq (.inl rfl) (bm rfl (ak rfl) (ak rfl)) (fun w1 hw=> ?_)
     exact⟨t,by rw[he],trivial,by rw[hl];exact ah.mem hw⟩
    ·
     replace h3:=bz h3
     refine Gc ?_
     iterate 4 refine Gs ?_
     refine Gc ?_
     refine au rfl (fun h4=> ?_) (fun h4=> ?_)
     ·
      replace h4:=bz h4
      have he:fq ts g=5:=by rw[fq,if_pos hm,if_neg (by rw[h3];simp),if_neg (by rw[h2];simp),if_pos (by omega)]
      refine Gc ?_
      iterate 3 refine Gs ?_
      refine Gc ?_
      refine aq (.inl rfl) (bm rfl (ak rfl) (ak rfl)) (fun w1 hw=> ?_)
      exact⟨t,by rw[he],trivial,by rw[jy,if_neg (by rw[he];decide)];exact ah.mem hw⟩
     ·
      replace h4:=bz h4
      have he:fq ts g=0:=by rw[fq,if_pos hm,if_neg (by rw[h3];simp),if_neg (by rw[h2];simp),if_neg (by omega)]
      have hl:jy ts g=ts.take (cK ts g.r.p)++g.r::ts.drop (cK ts g.r.p):=by rw[jy,if_pos he,if_neg (by rw[h2];simp),if_neg (by rw[h3];simp)]
      refine Gc ?_
      iterate 3 refine Gs ?_
      refine ag (iA rfl) ?_
      refine pc (enc:=ay) (vals:=[_]) [g.r] rfl rfl rfl (by decide) (by decide) fun b55=> ?_
      refine bq rfl ⟨by omega,by omega⟩ fun CN GM=> ?_
      iterate 2 refine Gs ?_
      refine Gc ?_
      refine aq (.inl rfl) (bm rfl (ak rfl) (ak rfl)) (fun w1 hw=> ?_)
      exact⟨CN,by rw[he],trivial,by rw[hl];exact ah.mem hw⟩
instance ain{w0:World}{L R:List ai}{i:Nat}{t:Sv}{ts:List Rt}{g:Ch}[q:fD L t ay 19 ts i][d:dq L i R]:cl Tryz.prog 74 w0 L [t.val, .agg (fO g)] (Sv) (fun zz=> .tuple #[zz.val, .int .i64 (fq ts g)]) (fun zz=>own ay 19 zz (jy ts g)::R) (fun zz=>True) (ts.length≤1000):=⟨fun hp w hw=>XR w0 w R t ts g (FZ q.h d.h hw) hp⟩
theorem XS(w:World)(t:Sv)(ts:List Rt)(l:Sv)(ls:List Ch)(ht:bQ ay 19 (hp w) t ts)(hl:bQ fO 20 (hp w) l ls)(bb:ts.length≤1000000):Calls Tryz.prog 34 #[t.val,l.val] w fun e w'=> ∃zz:Sv,e= .returned (.tuple #[zz.val, .int .i64 (dS ts ls)])∧(True)∧Mem w [own ay 19 zz (cH ts ls)] w':=by
 have CA:Gv w t ay 19 ts:=⟨ht⟩
 have oM:Gv w l fO 20 ls:=⟨hl⟩
 have G0:=hl.bd
 refine ba (args:=[_,_]) Tryz.func34 rfl Tryz.ntmps34 rfl ?_
 change Cw _ _ _ _ _ [(0,t.val),(1,l.val)] []
 refine Gc ?_
 iterate 2 refine Gs ?_
 refine Gc ?_
 iterate 3 refine Gs ?_
 refine Gc ?_
 refine au rfl (fun h0=> ?_) (fun h0=> ?_)
 ·
  replace h0:=bz h0
  have he:dS ts ls=1:=if_neg (by rw[h0];simp)
  have ha:cH ts ls=ts:=by rw[cH,if_neg (by rw[he];decide)]
  refine Gc ?_
  refine Gs ?_
  refine bq rfl (by omega) fun lY xx=> ?_
  iterate 2 refine Gs ?_
  refine Gc ?_
  refine aq (.inl rfl) (bm rfl (ak rfl) (ak rfl)) (fun w1 hw=> ?_)
  exact⟨lY,by rw[he],trivial,by rw[ha];exact ah.mem hw⟩
 ·
  replace h0:=bz h0
  have hr:dr ts=true:=h0
  have hlen:=Bw hr
  refine Gc ?_
  refine Gs ?_
  refine bq rfl (by omega) fun aA kg=> ?_
  refine Gs ?_
  refine Gc ?_
  iterate 3 refine Gs ?_
  refine Gc ?_
  refine ca (X:=Nat×Sv×List Rt) (fun zz=>[(19, .int .i64 (zz.1:Nat)),(6,zz.2.1.val),(0,t.val),(17,l.val),(18, .int .i64 (ls.length:Nat))]) (fun zz=>[own ay 19 zz.2.1 zz.2.2]) (fun zz=>zz.1≤ls.length∧k7 ts ls=k7 zz.2.2 (ls.drop zz.1)∧zz.2.2.length≤256) (fun zz=>ls.length -zz.1) (0,aA,ts) ⟨Nat.zero_le _,rfl,hlen⟩ (Sub.cons rfl (Sub.cons rfl (Sub.cons rfl (Sub.cons rfl (Sub.cons rfl (Sub.nil _)))))) (fun w hw=>ah.mem hw) ?_
  rintro⟨i,s1,q⟩ ⟨bh,aF,bt⟩
  dsimp only
  simp only at bh aF bt
  refine Gc ?_
  refine Gs ?_
  refine Gc ?_
  refine au rfl (fun h1=> ?_) (fun h1=> ?_)
  ·
   replace h1:=bz h1
   iterate 6 refine Gi ?_
   obtain⟨g,hg⟩:=get_some (xs:=ls) (i:=i) (by omega)
   refine ag (bg rfl rfl i rfl (by omega)) ?_
   refine ag (gG rfl i hg rfl) ?_
   refine bK fun b8=> ?_
   refine Gs ?_
   refine Gc ?_
   refine Gs ?_
   refine Gc ?_
   iterate 2 refine Gs ?_
   refine bq rfl (by omega) fun kh qz=> ?_
   refine Gs ?_
   refine ag (aV (v:=kh.val) rfl rfl) ?_
   refine ag (aV (v:= .int .i64 (fq q g)) rfl rfl) ?_
   iterate 2 refine Gs ?_
   refine Gc ?_
   iterate 2 refine Gs ?_
   refine Gc ?_
   refine au rfl (fun h2=> ?_) (fun h2=> ?_)
   ·
    replace h2:=bz h2
    have MR: ¬fq q g=0:=h2
    have ef:k7 ts ls=(q,fq q g):=by rw[aF,Ly hg,if_neg MR]
    have he:dS ts ls=fq q g:=by rw[dS,if_pos hr,ef]
    have ha:cH ts ls=ts:=by rw[cH,if_neg (by rw[he];exact MR)]
    refine Gc ?_
    refine Gs ?_
    refine bq rfl (by omega) fun az sE=> ?_
    iterate 3 refine Gs ?_
    refine Gc ?_
    refine aq (.inl rfl) (bm rfl (ak rfl) (ak rfl)) (fun w1 hw=> ?_)
    exact⟨az,by rw[he],trivial,by rw[ha];exact ah.mem hw⟩
   ·
    replace h2:=bz h2
    refine Gc ?_
    iterate 2 refine Gs ?_
    refine Gi ?_
    exact bx (x:=(i,s1,q)) (i+1,kh,jy q g) ⟨by first|omega|(simp only[];omega),by rw[aF,Ly hg,if_pos h2],Lw bt g⟩ (by simp only;omega) (Sub.cons rfl (Sub.cons rfl (Sub.cons rfl (Sub.cons rfl (Sub.cons rfl (Sub.nil _)))))) (fun w hw=>ah.mem hw)
  ·
   replace h1:=bz h1
   obtain rfl:i=ls.length:=by omega
   have ef:k7 ts ls=(q,0):=by rw[aF,List.drop_length];rfl
   have he:dS ts ls=0:=by rw[dS,if_pos hr,ef]
   have ha:cH ts ls=q:=by rw[cH,if_pos he,ef]
   refine Gc ?_
   iterate 3 refine Gs ?_
   refine Gc ?_
   refine aq (.inl rfl) (bm rfl (ak rfl) (ak rfl)) (fun w1 hw=> ?_)
   exact⟨s1,by rw[he],trivial,by rw[ha];exact ah.mem hw⟩
instance aio{w0:World}{L:List ai}{t:Sv}{ts:List Rt}{l:Sv}{ls:List Ch}[ht:c0 w0 L ay 19 t ts][hl:c0 w0 L fO 20 l ls]:cl Tryz.prog 34 w0 L [t.val,l.val] (Sv) (fun zz=> .tuple #[zz.val, .int .i64 (dS ts ls)]) (fun zz=>own ay 19 zz (cH ts ls)::L) (fun zz=>True) (ts.length≤1000000):=⟨fun hp w hw=>(XS w t ts l ls (ht.h w hw) (hl.h w hw) hp).mono fun e w' ⟨x,h1,h2,h3⟩=>⟨x,h1,h2,hw.call h3⟩⟩
end Go.Proofs.YtaipiecplldinaaGreat
