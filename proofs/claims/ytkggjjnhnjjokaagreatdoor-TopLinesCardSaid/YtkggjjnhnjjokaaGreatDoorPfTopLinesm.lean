/- The law TopLines holds, and its card: a fib's routes, as lines, read and put into another fib, one by one, are the same table there, if there is room. It holds of all arguments that can be read, where the listed variables of the library hold what the text lays; its arguments read behind the call as they did. -/
import Derived.Test.YtkggjjnhnjjokaaGreatDoorRows
import Derived.Test.YtkggjjnhnjjokaaGreatDoorE8
import Derived.Test.YtkggjjnhnjjokaaGreatDoorE2
import Derived.Test.YtkggjjnhnjjokaaGreatDoorE7
import Derived.Test.YtkggjjnhnjjokaaGreatDoorTie
import Derived.Test.YtkggjjnhnjjokaaGreatDoorCards
import Derived.Lib.LaidTab
import Derived.Lib.LaidU8
set_option maxRecDepth 20000
set_option linter.unusedSimpArgs false
set_option linter.unusedVariables false
namespace Go.Proofs.YtkggjjnhnjjokaaGreatDoor
open Go.ax Go.Kb Go.ChangeShapes Go.WideShapes Go.ChangeAt Go.RowKit
def yY:List (String×DataW Unit):=[("math/bits.deBruijn32tab",Rows.laid_math_bits_deBruijn32tab),("math/bits.deBruijn64tab",Rows.laid_math_bits_deBruijn64tab),("internal/strconv.uint64pow10",Rows.laid_internal_strconv_uint64pow10),("unicode/utf8.acceptRanges",Rows.laid_unicode_utf8_acceptRanges),("unicode/utf8.first",Rows.laid_unicode_utf8_first)]
theorem ahQ: ∃g,Tryz.prog.globalNamed "internal/strconv.uint64pow10" =some g∧(Tryz.prog.globals[g]?).map (·.type)=some 385:=⟨Option.get (Tryz.prog.globalNamed "internal/strconv.uint64pow10") (by kernel_rfl),by kernel_rfl,by kernel_rfl⟩
theorem ahR{W:World}(h:laidMetH Tryz.prog yY W):Lib.TabIs Tryz.prog W "internal/strconv.uint64pow10" .u64 Lib.pow10Tab:=by
 rw[MakeChecks.laidMetH_plain _ _ _ (by kernel_rfl)]at h;obtain⟨g',t',cs,fuel,p,ux,Iu,ahS,hd⟩:=Lib.laidMet.reads h (n:= "internal/strconv.uint64pow10") (d:=Lib.tabData .u64 Lib.pow10Tab) (.tail _ (.tail _ (.head _)))
 obtain⟨g,ahT,ahU⟩:=ahQ;obtain rfl:=aqP (ahT.symm.trans ux);obtain rfl:=aqP (ahU.symm.trans Iu);unfold Lib.TabIs;rw[ahS,←Lib.cells_of_tab Tryz.underlying385 Tryz.underlying61 (by kernel_rfl) (by kernel_rfl) hd]
theorem ahV{W:World}(hs:W.ShapedOpen Tryz.prog)(h:laidMetH Tryz.prog yY W):qV W:=⟨ahR h,Tryz.X9.s1_3 W hs⟩
theorem Tryz.own:ownKnob Tryz.prog.godebug=none:=by kernel_rfl
theorem Tryz.laidOut:laidOutB Tryz.prog=true:=by kernel_rfl
set_option maxRecDepth 100000 in
theorem ahW{H:Type}{enc:TypeId×Value->H}(W:World)(base:Nat)(vs:List Value)(hs:W.ShapedOpen Tryz.prog)(hL:laidMetH Tryz.prog yY W)(hl:vs.length=4)(h: ∀(j:Nat) t v,Tryz.f10.params[j]? =some t->vs[j]? =some v->Arg H enc Tryz.prog W base t v):
  Calls Tryz.prog 10 vs.toArray W fun e W'=>e= .returned (.bool true)/\Mem W [] W':=by
 rw[Tryz.params10]at h;obtain⟨v0,v1,v2,v3,rfl⟩:=VS hl;obtain⟨x0,rfl⟩:=MY (t:=5) Tryz.underlying5 (h 0 5 v0 rfl rfl).ok;obtain⟨x1,rfl⟩:=MY (t:=5) Tryz.underlying5 (h 1 5 v1 rfl rfl).ok;obtain⟨x2,rfl⟩:=MY (t:=5) Tryz.underlying5 (h 2 5 v2 rfl rfl).ok;obtain⟨x3,rfl,g3⟩:=(h 3 45 v3 rfl rfl).sl Tryz.underlying45 Ch;exact ahu W (tb:=ahV hs hL) x0 x1 x2 x3.sv x3.xs g3.1
set_option maxRecDepth 100000 in
theorem ahX(os:Os)(started:os.Started)(H:Type)(enc:TypeId×Value->H):
  ReturnsInHanded {} Tryz.checked os 10 .any (fun w args=>(Rows.topLinesSpec.pre enc Tryz.prog Tryz.f10 Rows.topLinesRow.domain false w args/\laidMetH Tryz.prog yY w)/\sizedMet enc Tryz.prog Tryz.f10 (OpenSpec.ofChange Rows.topLinesSpec) false w args) (Rows.topLinesSpec.post enc Tryz.prog Tryz.f10 false true false false):=
 ahK (C:=Tryz.checked) (laid:=yY) Tryz.own started (by kernel_rfl) Tryz.func10
  (ChangeSpec.witness_shaped (enc:=enc) (C:=Tryz.checked) (os:=os) (X:=fun w _=>laidMetH Tryz.prog yY w) false (World.laidAll Tryz.prog os yY) #[.int .u8 0, .int .u8 0, .int .u8 0, .slice none 0 0] 24 (World.laidAll_os _ _ _)
   (World.shaped_of_ZipB (by kernel_rfl) (by kernel_rfl)) (by kernel_rfl) (by kernel_rfl) (by kernel_rfl)
   (by rw[MakeChecks.laidMetH_plain _ _ _ (by kernel_rfl)];exact laidMet_laidAll _ (by kernel_rfl) (by kernel_rfl)))
  Tryz.laidOut (by kernel_rfl) rfl Tryz.underlying4 rfl (fun ds hd=>by obtain⟨d0,d1,d2,d3,rfl⟩:=VS (hd.trans (by kernel_rfl));rfl)
  (fun W base vs hs hL hl h=>ahW W base vs hs hL (hl.trans (by kernel_rfl)) h)
theorem ahY:Tryz.prog.inPlace 10=Rows.topLinesRow.inPlace:=by kernel_rfl
theorem ahZ:Tryz.prog.unfollowed 10=Rows.topLinesRow.unfollowed:=by kernel_rfl
theorem ah0:Tryz.prog.recurses 10=Rows.topLinesRow.recurses:=by kernel_rfl
theorem ah1:Tryz.prog.varsNamed 10=Rows.topLinesRow.named:=by kernel_rfl
theorem ah2:joinedFacts Tryz.prog 10 Tryz.f10 Rows.topLinesSpec Rows.topLinesRow=true:=by
 unfold joinedFacts;rw[ahY,ahZ,ah0,ah1];kernel_rfl
theorem ah3:Rows.TopLinesSaid:=
 OpenClaim.holds_of_wide 10 Tryz.f10 rfl rfl rfl rfl rfl rfl rfl ⟨rfl,rfl,rfl,rfl,rfl⟩ rfl rfl rfl rfl rfl (by kernel_rfl) Tryz.func10 ah2
  (of_decide_eq_true (by kernel_rfl)) (by unfold Func.isWrapper;first|(rw[if_pos (by decide+kernel)];kernel_rfl)|(rw[if_neg (by decide+kernel)];exact⟨rfl,rfl⟩))
  (fun os started H enc _=>ahX os started H enc)
theorem ah4:Rows.topLinesRow.wfByText (OpenSpec.ofChange Rows.topLinesSpec)=true:=by kernel_rfl
theorem ah5:Tryz.prog.mainIs=some (true, "52e7e4c474082fcaf5d11505ba5fca5241dca959981d0ff9b7a78ac1e7b0d2be".toList):=by kernel_rfl
theorem ah6:Tryz.prog.funcNamed "byway/bywaytop.TopLines" =some 10:=by kernel_rfl
theorem ah7:true=Tryz.prog.looks []:=by kernel_rfl
theorem ah8:false=Rows.topLinesRow.goesBy Tryz.prog:=by kernel_rfl
theorem M5:Tryz.prog.wantsStandIn 5=false:=by kernel_rfl
theorem ah9:Tryz.prog.wantsStandIn 45=false:=by kernel_rfl
theorem topLines_holds:Rows.TopLinesCardSaid:=
 Claim7.holds_tied_plain_at .later [] [.data, .data, .data, .data, .pinned] true (true, "52e7e4c474082fcaf5d11505ba5fca5241dca959981d0ff9b7a78ac1e7b0d2be") true
  ah3 (fun _ h=>by cases h) ah4 (fun _ h=>by cases h) topLines_row_tie rfl ⟨rfl,rfl⟩ ah5 rfl
  (fun f fn hf DK=>by
   obtain rfl:f=10:=aqP (ah6.symm.trans hf)|>.symm;obtain rfl:fn=Tryz.f10:=(aqP (Tryz.func10.symm.trans DK)).symm;exact⟨ah7,fun j t ht=>by
    rw[Tryz.params10]at ht;have hm:t∈[5,5,5,45]:=by
     obtain⟨hj,e⟩:=asB.1 ht;rw[←e];exact Array.mem_toList_iff.2 (Array.getElem_mem hj)
    simp only[aqW,atf,or_false]at hm;rcases hm with rfl|rfl|rfl|rfl
    ·
     exact M5
    ·
     exact M5
    ·
     exact M5
    exact ah9⟩)
  ah8
end Go.Proofs.YtkggjjnhnjjokaaGreatDoor
