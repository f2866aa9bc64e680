/-
  AM, part 15: what evaluation unfolds.
-/
import Derived.Test.YtfbmbjfcgoahfaaAM14
namespace Go.AM
open Go

attribute [go_sem] gsplit_true gsplit_false arun isCall guardA astep putT ev evs evp ofV ofC apick abuiltin anil aload cellsFrom takeAs astore boxCells abox lk hset abin abin1 abin2 aint ashift astr aequal aeq aeqs apart
  afieldAddr afield fld aextract aindexAddr aindex abnd aslice alim aunary aconvert aiface alen aminmax abuild afill splice abuildSlice arows amakeSlice srcB rowsOf aappend TK.agg target
  alookup amapUpdate amapEntry aentryStore adelete keyOk commaA mpe_nil mpe_keys alook_mpe aput_mpe adel_mpe aborn_mpe astamp_mpe

attribute [go_sem] List.set_cons_zero List.set_cons_succ List.getD_cons_zero List.getD_cons_succ List.getElem?_cons_succ List.getElem?_cons_zero List.getElem?_toArray List.map_cons List.map_nil
  Option.map_some Option.map_none Option.bind_some Option.getD_some Option.getD_none List.drop_succ_cons List.drop_zero List.take_succ_cons List.take_zero List.length_cons List.length_nil List.nil_append List.cons_append
  List.replicate_succ List.replicate_zero Option.isNone_none Option.isNone_some Option.isSome_some Option.isSome_none

end Go.AM
