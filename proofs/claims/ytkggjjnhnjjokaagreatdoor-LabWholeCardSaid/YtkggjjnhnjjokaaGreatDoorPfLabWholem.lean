/- The law LabWhole holds, and its card: a script that makes one batch, in which the power goes anywhere, and that is mounted then, has the batch as a whole, or nothing of it. It holds of all arguments that can be read, where the listed variables of the library hold what the text lays; its arguments read behind the call as they did. -/
import Derived.Test.YtkggjjnhnjjokaaGreatDoorRows
import Derived.Test.YtkggjjnhnjjokaaGreatDoorG8
import Derived.Test.YtkggjjnhnjjokaaGreatDoorTie
import Derived.Test.YtkggjjnhnjjokaaGreatDoorCards
import Derived.Lib.LaidU8
set_option maxRecDepth 20000
set_option linter.unusedSimpArgs false
set_option linter.unusedVariables false
namespace Go.Proofs.YtkggjjnhnjjokaaGreatDoor
open Go.ax Go.Kb Go.ChangeShapes Go.WideShapes Go.ChangeAt Go.RowKit
def vf:List (String×DataW Unit):=[("math/bits.deBruijn32tab",Rows.laid_math_bits_deBruijn32tab),("math/bits.deBruijn64tab",Rows.laid_math_bits_deBruijn64tab),("internal/strconv.uint64pow10",Rows.laid_internal_strconv_uint64pow10),("unicode/utf8.acceptRanges",Rows.laid_unicode_utf8_acceptRanges),("strconv.ErrRange",Rows.laid_strconv_ErrRange),("strconv.ErrSyntax",Rows.laid_strconv_ErrSyntax),("unicode/utf8.first",Rows.laid_unicode_utf8_first)]
theorem ajF: ∃g,Tryz.prog.globalNamed "internal/strconv.uint64pow10" =some g∧(Tryz.prog.globals[g]?).map (·.type)=some 385:=⟨Option.get (Tryz.prog.globalNamed "internal/strconv.uint64pow10") (by kernel_rfl),by kernel_rfl,by kernel_rfl⟩
theorem ajG{W:World}(h:laidMetH Tryz.prog vf W):Lib.TabIs Tryz.prog W "internal/strconv.uint64pow10" .u64 Lib.pow10Tab:=by
 rw[MakeChecks.laidMetH_plain _ _ _ (by kernel_rfl)]at h;obtain⟨g',t',cs,fuel,p,sD,Co,yL,hd⟩:=Lib.laidMet.reads h (n:= "internal/strconv.uint64pow10") (d:=Lib.tabData .u64 Lib.pow10Tab) (.tail _ (.tail _ (.head _)))
 obtain⟨g,ajH,ajI⟩:=ajF;obtain rfl:=atl (ajH.symm.trans sD);obtain rfl:=atl (ajI.symm.trans Co);unfold Lib.TabIs;rw[yL,←Lib.cells_of_tab Tryz.underlying385 Tryz.underlying61 (by kernel_rfl) (by kernel_rfl) hd]
theorem ajJ{W:World}(hs:W.ShapedOpen Tryz.prog)(h:laidMetH Tryz.prog vf W):Tabs W:=⟨ajG h,Tryz.ZK.s1_3 W hs⟩
theorem ajK{P:Program}{w:World}{fuel:Nat}{t:TypeId}{cs:List Value}{n:String}{d:DataW Unit}{p:List MemPlace}(ht: ∃ms,P.underlying t=some (.interface ms))(h:DataW.trod (fun _=>()) P w 0 (fun _=>true) false fuel t cs=some (.iface n d,p)): ∃u v,cs=[.iface u v]:=by
 obtain⟨ms,ht⟩:=ht
 cases fuel with
 |zero=>simp[DataW.trod]at h
 |succ m=>
  unfold DataW.trod at h;rw[ht]at h;split at h<;>simp_all
theorem XB{W:World}(h:laidMetH Tryz.prog vf W){n s:String}{d:DataW Unit}(hm:(n,DataW.iface s d)∈vf)(hg: ∃g,Tryz.prog.globalNamed n=some g/\(Tryz.prog.globals[g]?).map (·.type)=some 303): ∃tp p,W.var? Tryz.prog n=some #[.iface tp p]:=by
 rw[MakeChecks.laidMetH_plain _ _ _ (by kernel_rfl)]at h;obtain⟨g',t',cs,fuel,p,sD,Co,yL,hd⟩:=Lib.laidMet.reads h hm;obtain⟨g,h1,h2⟩:=hg;obtain rfl:=atl (h1.symm.trans sD);obtain rfl:=atl (h2.symm.trans Co);obtain⟨u,v,e⟩:=ajK ⟨_,Tryz.underlying303⟩ hd;exact⟨u,v,by rw[yL];exact congrArg some (Array.toList_inj.1 e)⟩
theorem ajL{W:World}(hs:W.ShapedOpen Tryz.prog)(h:laidMetH Tryz.prog vf W):iC W:=
 {ajJ hs h with
  F1:=XB h (n:= "strconv.ErrSyntax") (.tail _ (.tail _ (.tail _ (.tail _ (.tail _ (.head _)))))) ⟨Option.get (Tryz.prog.globalNamed "strconv.ErrSyntax") (by kernel_rfl),by kernel_rfl,by kernel_rfl⟩
  F2:=XB h (n:= "strconv.ErrRange") (.tail _ (.tail _ (.tail _ (.tail _ (.head _))))) ⟨Option.get (Tryz.prog.globalNamed "strconv.ErrRange") (by kernel_rfl),by kernel_rfl,by kernel_rfl⟩}
theorem Tryz.own:ownKnob Tryz.prog.godebug=none:=by kernel_rfl
theorem Tryz.laidOut:laidOutB Tryz.prog=true:=by kernel_rfl
set_option maxRecDepth 100000 in
theorem ajM{H:Type}{enc:TypeId×Value->H}(W:World)(base:Nat)(vs:List Value)(hs:W.ShapedOpen Tryz.prog)(hL:laidMetH Tryz.prog vf W)(hl:vs.length=5)(h: ∀(j:Nat) t v,Tryz.f8.params[j]? =some t->vs[j]? =some v->Arg H enc Tryz.prog W base t v):
  Calls Tryz.prog 8 vs.toArray W fun e W'=>e= .returned (.bool true)/\Mem W [] W':=by
 rw[Tryz.params8]at h;obtain⟨v0,v1,v2,v3,v4,rfl⟩:=Xw hl;obtain⟨x0,rfl⟩:=Xx (t:=5) Tryz.underlying5 (h 0 5 v0 rfl rfl).ok;obtain⟨x1,rfl⟩:=Xx (t:=5) Tryz.underlying5 (h 1 5 v1 rfl rfl).ok;obtain⟨x2,rfl,g2⟩:=(h 2 45 v2 rfl rfl).sl Tryz.underlying45 Ch;obtain⟨x3,rfl,g3⟩:=(h 3 45 v3 rfl rfl).sl Tryz.underlying45 Ch;obtain⟨x4,rfl⟩:=ajp (t:=27) Tryz.underlying27 (h 4 27 v4 rfl rfl).ok;exact ajl W (tb:=ajL hs hL) x0 x1 x2.sv x2.xs x3.sv x3.xs x4 g2.1 g3.1
set_option maxRecDepth 100000 in
theorem ajN(os:Os)(started:os.Started)(H:Type)(enc:TypeId×Value->H):
  ReturnsInHanded {} Tryz.checked os 8 .any (fun w args=>(Rows.labWholeSpec.pre enc Tryz.prog Tryz.f8 Rows.labWholeRow.domain false w args/\laidMetH Tryz.prog vf w)/\sizedMet enc Tryz.prog Tryz.f8 (OpenSpec.ofChange Rows.labWholeSpec) false w args) (Rows.labWholeSpec.post enc Tryz.prog Tryz.f8 false true false false):=
 ajz (C:=Tryz.checked) (laid:=vf) Tryz.own started (by kernel_rfl) Tryz.func8
  (ChangeSpec.witness_shaped (enc:=enc) (C:=Tryz.checked) (os:=os) (X:=fun w _=>laidMetH Tryz.prog vf w) false (World.laidAll Tryz.prog os vf) #[.int .u8 0, .int .u8 0, .slice none 0 0, .slice none 0 0, .int .u16 0] 24 (World.laidAll_os _ _ _)
   (World.shaped_of_ZipB (by kernel_rfl) (by kernel_rfl)) (by kernel_rfl) (by kernel_rfl) (by kernel_rfl)
   (by rw[MakeChecks.laidMetH_plain _ _ _ (by kernel_rfl)];exact laidMet_laidAll _ (by kernel_rfl) (by kernel_rfl)))
  Tryz.laidOut (by kernel_rfl) rfl Tryz.underlying4 rfl (fun ds hd=>by obtain⟨d0,d1,d2,d3,d4,rfl⟩:=Xw (hd.trans (by kernel_rfl));rfl)
  (fun W base vs hs hL hl h=>ajM W base vs hs hL (hl.trans (by kernel_rfl)) h)
theorem ajO:Tryz.prog.inPlace 8=Rows.labWholeRow.inPlace:=by kernel_rfl
theorem ajP:Tryz.prog.unfollowed 8=Rows.labWholeRow.unfollowed:=by kernel_rfl
theorem ajQ:Tryz.prog.recurses 8=Rows.labWholeRow.recurses:=by kernel_rfl
theorem ajR:Tryz.prog.varsNamed 8=Rows.labWholeRow.named:=by kernel_rfl
theorem ajS:joinedFacts Tryz.prog 8 Tryz.f8 Rows.labWholeSpec Rows.labWholeRow=true:=by
 unfold joinedFacts;rw[ajO,ajP,ajQ,ajR];kernel_rfl
theorem ajT:Rows.LabWholeSaid:=
 OpenClaim.holds_of_wide 8 Tryz.f8 rfl rfl rfl rfl rfl rfl rfl ⟨rfl,rfl,rfl,rfl,rfl⟩ rfl rfl rfl rfl rfl (by kernel_rfl) Tryz.func8 ajS
  (of_decide_eq_true (by kernel_rfl)) (by unfold Func.isWrapper;first|(rw[if_pos (by decide+kernel)];kernel_rfl)|(rw[if_neg (by decide+kernel)];exact⟨rfl,rfl⟩))
  (fun os started H enc _=>ajN os started H enc)
theorem ajU:Rows.labWholeRow.wfByText (OpenSpec.ofChange Rows.labWholeSpec)=true:=by kernel_rfl
theorem ajV:Tryz.prog.mainIs=some (true, "52e7e4c474082fcaf5d11505ba5fca5241dca959981d0ff9b7a78ac1e7b0d2be".toList):=by kernel_rfl
theorem ajW:Tryz.prog.funcNamed "byway/bywaylaw22.LabWhole" =some 8:=by kernel_rfl
theorem ajX:true=Tryz.prog.looks []:=by kernel_rfl
theorem ajY:false=Rows.labWholeRow.goesBy Tryz.prog:=by kernel_rfl
theorem XC:Tryz.prog.wantsStandIn 5=false:=by kernel_rfl
theorem ajZ:Tryz.prog.wantsStandIn 27=false:=by kernel_rfl
theorem XD:Tryz.prog.wantsStandIn 45=false:=by kernel_rfl
theorem labWhole_holds:Rows.LabWholeCardSaid:=
 Claim7.holds_tied_plain_at .later [] [.data, .data, .data, .data, .sentinel, .sentinel, .pinned] true (true, "52e7e4c474082fcaf5d11505ba5fca5241dca959981d0ff9b7a78ac1e7b0d2be") true
  ajT (fun _ h=>by cases h) ajU (fun _ h=>by cases h) labWhole_row_tie rfl ⟨rfl,rfl⟩ ajV rfl
  (fun f fn hf Ez=>by
   obtain rfl:f=8:=atl (ajW.symm.trans hf)|>.symm;obtain rfl:fn=Tryz.f8:=(atl (Tryz.func8.symm.trans Ez)).symm;exact⟨ajX,fun j t ht=>by
    rw[Tryz.params8]at ht;have hm:t∈[5,5,45,45,27]:=by
     obtain⟨hj,e⟩:=au5.1 ht;rw[←e];exact Array.mem_toList_iff.2 (Array.getElem_mem hj)
    simp only[atv,auX,or_false]at hm;rcases hm with rfl|rfl|rfl|rfl|rfl
    ·
     exact XC
    ·
     exact XC
    ·
     exact XD
    ·
     exact XD
    exact ajZ⟩)
  ajY
end Go.Proofs.YtkggjjnhnjjokaaGreatDoor
