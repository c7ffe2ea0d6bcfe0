/- Lemmas. -/
import Derived.Test.YtpnabjopfpdkhaaGreatDoorA24
import Derived.Test.YtpnabjopfpdkhaaGreatDoorA33
set_option linter.unusedSimpArgs false
set_option linter.unusedVariables false
set_option maxHeartbeats 4000000
set_option maxRecDepth 20000
namespace Go.Proofs.YtpnabjopfpdkhaaGreatDoor
open Go.RowKit
variable {b cap lb lo m:Nat} {nv:Value} {L:Toks} {N:List Nd} {w:World} {ee wh z:Int} {ss:List ByteArray}
attribute [go_sem] more_more Array.size_append
theorem rfail_alive (h:Rt b lb lo cap nv L m N 0 wh w) (c:Int) :
  Calls Tryz.prog 119 #[.pointer (some ⟨b,0,none⟩),.int .i64 c] w fun e w'=>e=.returned (.tuple #[])∧∃ w1,Ext w w1∧w'=(w1.setCell ⟨b,3,none⟩ (.int .i64 c)).setCell ⟨b,4,none⟩ (.int .i64 (tk L m).2):=by
 obtain⟨c0,c1,c2,c3,c4,f1,f2,f3,f4,hb⟩:=h.facts
 obtain⟨t0,t1,t2,t3,hlb⟩:=h.tokFacts
 have hp:(m:Int)<(L.length:Int):=by have:=h.pos;omega
 have hp0:0≤(m:Int):=by omega
 have hmx:(m:Int)≤5000:=by have:=h.ends.few;have:=h.pos;omega
 have hne1:lb≠b:=by have:=h.low;omega
 obtain⟨⟨⟨k,ts,i⟩,a⟩,htt⟩:∃ tt,tk L m=tt:=⟨_,rfl⟩
 rw[htt] at t0 t1 t2 t3 ⊢;dsimp only at t0 t1 t2 t3 ⊢;clear htt h c2 f1 f2;go_enter Tryz.func119,Tryz.ntmps119;go_wp2_with fail;refine qaa 14 27 (List.replicate 14 false) zaf zaf rfl ?_;refine yac ?_
 repeat(refine Lex.step rfl ?_;intro K hK;unfold StepG;go_simp;(first
   | refine hK _ ?_);clear hK K)
 refine yaa ?_;intro dd oo;go_wp2_with fail;rw[ends_normal];go_wp2_with fail;go_end0
 exact⟨rfl,more w dd oo,zab,by rw[more_setCell _ _ _ _ _ _ hb,more_setCell _ _ _ _ _ _ (by simpa using hb)]⟩
theorem qbk (hee:ee≠0) (h:Rt b lb lo cap nv L m N ee wh w) (c:Int) :
  Calls Tryz.prog 119 #[.pointer (some ⟨b,0,none⟩),.int .i64 c] w fun e w'=>e=.returned (.tuple #[])∧Ext w w':=by
 obtain⟨c0,c1,c2,c3,c4,f1,f2,f3,f4,hb⟩:=h.facts
 have q:(ee==0)=false:=by simpa using hee
 clear h c0 c1 c2 c4 f1 f2 f3 f4 hee;go_enter Tryz.func119,Tryz.ntmps119;go_wp2_with fail;go_end0
 exact⟨rfl,zab⟩
theorem qdx (h:Rt b lb lo cap nv L m N 0 wh w) (s:ByteArray) (hs:(s.size:Int)≤100) :
  Calls Tryz.prog 209 #[.pointer (some ⟨b,0,none⟩),.string s] w fun e w'=>e=.returned (.bool (isP L s m))∧Ext w w':=by
 obtain⟨c0,c1,c2,c3,c4,f1,f2,f3,f4,hb⟩:=h.facts
 obtain⟨t0,t1,t2,t3,hlb⟩:=h.tokFacts
 have hp:(m:Int)<(L.length:Int):=by have:=h.pos;omega
 have hp0:0≤(m:Int):=by omega
 have hmx:(m:Int)≤5000:=by have:=h.ends.few;have:=h.pos;omega
 have hne1:lb≠b:=by have:=h.low;omega
 obtain⟨⟨⟨k,ts,i⟩,a⟩,htt⟩:∃ tt,tk L m=tt:=⟨_,rfl⟩
 have W:=Lib.hid (rword_any s hs)
 cases hw:wordB s
 all_goals
  rw[hw] at W;rw[isP_eq htt s _ hw];rw[htt] at t0 t1 t2 t3;dsimp only at t0 t1 t2 t3 ⊢;clear htt hw h c2 c4 f1 f2 f3 f4 hmx
 · by_cases hk:(k==4)=true
   · rw[if_neg zaj,hk]
     go_enter Tryz.func209,Tryz.ntmps209;go_wp2_with fail;refine yay ⟨?_⟩;refine yac ?_
     iterate 10 (refine Lex.step rfl ?_;intro K hK;unfold StepG;go_simp;refine hK _ ?_;clear hK K)
     refine Lex.alloc 5 (.cells #[.int .i64 0,.int .i64 0,.string ⟨#[]⟩,.int .i64 0] 186) rfl rfl (fun d os=>?_) ?_
     · unfold StepG
       go_simp;exact yaj
     refine Lex.nil fun WW hE=>?_
     intro u hu
     obtain⟨dt1,ot1,dt2,ot2,rfl,rfl⟩:=hu.split hE
     clear hu hE;go_simp;unfold FillH;go_wp2_with fail;rw[ends_normal]
     go_wp2_with (go_at_call 141;refine (W.out _).mono ?_;rintro e _ ⟨rfl,d,os,rfl⟩)
     go_ret
     exact⟨ret_bool zaj,zab⟩
   · have hk2:(k==4)=false:=by simpa using hk
     clear hk;rw[if_neg zaj,hk2];go_enter Tryz.func209,Tryz.ntmps209;go_wp2_with fail;refine yay ⟨?_⟩;refine yac ?_
     iterate 10 (refine Lex.step rfl ?_;intro K hK;unfold StepG;go_simp;refine hK _ ?_;clear hK K)
     refine Lex.alloc 5 (.cells #[.int .i64 0,.int .i64 0,.string ⟨#[]⟩,.int .i64 0] 186) rfl rfl (fun d os=>?_) ?_
     · unfold StepG
       go_simp;exact yaj
     refine Lex.nil fun WW hE=>?_
     intro u hu
     obtain⟨dt1,ot1,dt2,ot2,rfl,rfl⟩:=hu.split hE
     clear hu hE;go_simp;unfold FillH;go_wp2_with fail;rw[ends_normal]
     go_wp2_with (go_at_call 141;refine (W.out _).mono ?_;rintro e _ ⟨rfl,d,os,rfl⟩)
     go_ret
     exact⟨ret_bool zaj,zab⟩
 · by_cases hk:(k==5)=true
   · rw[if_pos rfl,hk]
     go_enter Tryz.func209,Tryz.ntmps209;go_wp2_with fail;refine yay ⟨?_⟩;refine yac ?_
     iterate 10 (refine Lex.step rfl ?_;intro K hK;unfold StepG;go_simp;refine hK _ ?_;clear hK K)
     refine Lex.alloc 5 (.cells #[.int .i64 0,.int .i64 0,.string ⟨#[]⟩,.int .i64 0] 186) rfl rfl (fun d os=>?_) ?_
     · unfold StepG
       go_simp;exact yaj
     refine Lex.nil fun WW hE=>?_
     intro u hu
     obtain⟨dt1,ot1,dt2,ot2,rfl,rfl⟩:=hu.split hE
     clear hu hE;go_simp;unfold FillH;go_wp2_with fail;rw[ends_normal]
     go_wp2_with (go_at_call 141;refine (W.out _).mono ?_;rintro e _ ⟨rfl,d,os,rfl⟩)
     go_ret
     exact⟨ret_bool zaj,zab⟩
   · have hk2:(k==5)=false:=by simpa using hk
     clear hk;rw[if_pos rfl,hk2];go_enter Tryz.func209,Tryz.ntmps209;go_wp2_with fail;refine yay ⟨?_⟩;refine yac ?_
     iterate 10 (refine Lex.step rfl ?_;intro K hK;unfold StepG;go_simp;refine hK _ ?_;clear hK K)
     refine Lex.alloc 5 (.cells #[.int .i64 0,.int .i64 0,.string ⟨#[]⟩,.int .i64 0] 186) rfl rfl (fun d os=>?_) ?_
     · unfold StepG
       go_simp;exact yaj
     refine Lex.nil fun WW hE=>?_
     intro u hu
     obtain⟨dt1,ot1,dt2,ot2,rfl,rfl⟩:=hu.split hE
     clear hu hE;go_simp;unfold FillH;go_wp2_with fail;rw[ends_normal]
     go_wp2_with (go_at_call 141;refine (W.out _).mono ?_;rintro e _ ⟨rfl,d,os,rfl⟩)
     go_ret
     exact⟨ret_bool zaj,zab⟩
theorem sees_dead (hee:ee≠0) (h:Rt b lb lo cap nv L m N ee wh w) (s:ByteArray) (hs:(s.size:Int)≤100) :
  Calls Tryz.prog 209 #[.pointer (some ⟨b,0,none⟩),.string s] w fun e w'=>e=.returned (.bool false)∧Ext w w':=by
 obtain⟨c0,c1,c2,c3,c4,f1,f2,f3,f4,hb⟩:=h.facts
 obtain⟨t0,t1,t2,t3,hlb⟩:=h.tokFacts
 have hp:(m:Int)<(L.length:Int):=by have:=h.pos;omega
 have hp0:0≤(m:Int):=by omega
 have hmx:(m:Int)≤5000:=by have:=h.ends.few;have:=h.pos;omega
 have hne1:lb≠b:=by have:=h.low;omega
 obtain⟨⟨⟨k,ts,i⟩,a⟩,htt⟩:∃ tt,tk L m=tt:=⟨_,rfl⟩
 have W:=Lib.hid (rword_any s hs)
 have q:(ee==0)=false:=by simpa using hee
 cases hw:wordB s
 all_goals
  rw[hw] at W;rw[htt] at t0 t1 t2 t3;dsimp only at t0 t1 t2 t3 ⊢;clear htt hw h c2 c4 f1 f2 f3 f4 hmx hee;go_enter Tryz.func209,Tryz.ntmps209;go_wp2_with fail;refine yay ⟨?_⟩;refine yac ?_
  iterate 10 (refine Lex.step rfl ?_;intro K hK;unfold StepG;go_simp;refine hK _ ?_;clear hK K)
  refine Lex.alloc 5 (.cells #[.int .i64 0,.int .i64 0,.string ⟨#[]⟩,.int .i64 0] 186) rfl rfl (fun d os=>?_) ?_
  · unfold StepG
    go_simp;exact yaj
  refine Lex.nil fun WW hE=>?_
  intro u hu
  obtain⟨dt1,ot1,dt2,ot2,rfl,rfl⟩:=hu.split hE
  clear hu hE;go_simp;unfold FillH;go_wp2_with fail;rw[ends_normal]
  go_wp2_with (go_at_call 141;refine (W.out _).mono ?_;rintro e _ ⟨rfl,d,os,rfl⟩)
  go_ret
  exact⟨rfl,zab⟩
theorem qbH (h:Rt b lb lo cap nv L m N 0 0 w) (c:Int) (hc:c≠0) :
  Calls Tryz.prog 119 #[.pointer (some ⟨b,0,none⟩),.int .i64 c] w fun e w'=>e=.returned (.tuple #[])∧Rt b lb lo cap nv L m N c (tk L m).2 w'∧Kp b nv nv w w' :=
 (rfail_alive h c).mono fun e w' ⟨he,w1,hx,hw⟩=>⟨he,hw ▸ (h.ext hx).setErr c _ hc,hw ▸ (((Kp.refl b nv w).ext hx).setB 3 _).setB 4 _⟩
theorem qeL (hee:ee≠0) (h:Rt b lb lo cap nv L m N ee wh w) (s:ByteArray) (hs:(s.size:Int)≤100) :
  Calls Tryz.prog 185 #[.pointer (some ⟨b,0,none⟩),.string s] w fun e w'=>e=.returned (.bool false)∧Ext w w':=by
 have I:=Lib.hid (sees_dead hee h s hs);clear h hee;go_enter Tryz.func185,Tryz.ntmps185
 go_wp2_with (((with_reducible refine I.out.mono ?_);rintro e _ ⟨rfl,d,os,rfl⟩))
 go_ret
 exact⟨rfl,zab⟩
theorem take_no (h:Rt b lb lo cap nv L m N 0 0 w) (s:ByteArray) (hs:(s.size:Int)≤100) (hn:isP L s m=false) :
  Calls Tryz.prog 185 #[.pointer (some ⟨b,0,none⟩),.string s] w fun e w'=>e=.returned (.bool false)∧Ext w w':=by
 have I:=Lib.hid (qdx h s hs);rw[hn] at I;clear hn h;go_enter Tryz.func185,Tryz.ntmps185
 go_wp2_with (((with_reducible refine I.out.mono ?_);rintro e _ ⟨rfl,d,os,rfl⟩))
 go_ret
 exact⟨rfl,zab⟩
theorem qgp (h:Rt b lb lo cap nv L m N 0 0 w) (s:ByteArray) (hs:(s.size:Int)≤100) (hn:isP L s m=true) :
  Calls Tryz.prog 185 #[.pointer (some ⟨b,0,none⟩),.string s] w fun e w'=>e=.returned (.bool true)∧Rt b lb lo cap nv L (m+1) N 0 0 w'∧Kp b nv nv w w':=by
 have I:=Lib.hid (qdx h s hs);have H:=Lib.hid h;have NX:=Lib.hid (h.next (qek hn));rw[hn] at I
 have hm:(m:Int)≤5000:=by have:=h.ends.few;have:=h.pos;omega
 have hm0:0≤(m:Int):=by omega
 obtain⟨c0,c1,c2,c3,c4,f1,f2,f3,f4,hb⟩:=h.facts
 clear hn h c0 c2 c3 c4 f2 f3 f4;go_enter Tryz.func185,Tryz.ntmps185
 go_wp2_with (((with_reducible refine I.out.mono ?_);rintro e _ ⟨rfl,d,os,rfl⟩))
 go_ret
 exact⟨rfl,by rw[←more_setCell _ _ _ _ _ _ hb];exact(H.out.more d os).setAt (m+1) _ zac NX.out,by rw[←more_setCell _ _ _ _ _ _ hb];exact((Kp.refl b nv w).more d os).setB 1 _⟩
theorem qdd (hee:ee≠0) (h:Rt b lb lo cap nv L m N ee wh w) (s:ByteArray) (hs:(s.size:Int)≤100) :
  Calls Tryz.prog 181 #[.pointer (some ⟨b,0,none⟩),.string s] w fun e w'=>e=.returned (.tuple #[])∧Ext w w':=by
 have I:=Lib.hid (qeL hee h s hs);refine yad ?_;intro FL;clear h hee;go_enter Tryz.func181,Tryz.ntmps181
 go_wp2_with (first
  | (((with_reducible refine I.out.mono ?_);rintro e _ ⟨rfl,d,os,rfl⟩))
  | ((go_at_call 119;(with_reducible refine (FL.out _ _ zab).mono ?_);rintro e _ ⟨rfl,d2,os2,rfl⟩)))
 go_end0
 exact⟨rfl,zab⟩
theorem qgd (h:Rt b lb lo cap nv L m N 0 0 w) (s:ByteArray) (hs:(s.size:Int)≤100) (r:PR Unit) (hr:must1 L s m N.length=r) :
  Calls Tryz.prog 181 #[.pointer (some ⟨b,0,none⟩),.string s] w (RPost unitV isUnit b lb lo cap nv L m N w r):=by
 unfold must1 at hr
 cases hn:isP L s m
 · rw[hn,if_neg zaj] at hr
   subst hr;have I:=Lib.hid (take_no h s hs hn)
   have FL:RowKit.Hid (∀ w1,Ext w w1→Calls Tryz.prog 119 #[.pointer (some ⟨b,0,none⟩),.int .i64 3] w1 fun e w'=>e=.returned (.tuple #[])∧Rt b lb lo cap nv L m N 3 (tk L m).2 w'∧Kp b nv nv w1 w'):=Lib.hid fun w1 hx=>qbH (h.ext hx) 3 zak
   clear h hn;go_enter Tryz.func181,Tryz.ntmps181
   go_wp2_with (first
    | (((with_reducible refine I.out.mono ?_);rintro e _ ⟨rfl,d,os,rfl⟩))
    | ((go_at_call 119;(with_reducible refine (FL.out _ zab).mono ?_);rintro e w2 ⟨rfl,hs2,hk2⟩;have HS2:=Lib.hid hs2;have HK2:=Lib.hid hk2;clear hs2 hk2)))
   go_end0;exact RPost.err zak rfl HS2.out (((Kp.refl b nv w).more _ _).trans HK2.out)
 · rw[hn,if_pos rfl] at hr
   subst hr;have I:=Lib.hid (qgp h s hs hn);clear h hn;go_enter Tryz.func181,Tryz.ntmps181
   go_wp2_with (((with_reducible refine I.out.mono ?_);rintro e w2 ⟨rfl,hs2,hk2⟩;have HS2:=Lib.hid hs2;have HK2:=Lib.hid hk2;clear hs2 hk2))
   go_end0;exact RPost.res rfl (HS2.out.cast (List.append_nil N).symm) HK2.out (Nat.le_succ _)
theorem qcp (k a c:Int) (w:World):Calls Tryz.prog 180 #[.int .i64 k,.int .i64 a,.int .i64 c] w fun e w'=>e=.returned (.agg #[.int .i64 k,.int .i64 a,.int .i64 c,.int .i64 (-1),.int .i64 (-1),.int .i64 0,.string ⟨#[]⟩,.string ⟨#[]⟩])∧Ext w w':=by
 go_enter Tryz.func180,Tryz.ntmps180;go_wp2_with fail;exact bodyPost_ret (v:=.agg #[.int .i64 k,.int .i64 a,.int .i64 c,.int .i64 (-1),.int .i64 (-1),.int .i64 0,.string ⟨#[]⟩,.string ⟨#[]⟩]) (by simp[results,Tryz.results180,go_sem]) rfl ⟨rfl,zab⟩
theorem qgo (h:Rt b lb lo cap nv L m N ee wh w):∃ len c p,nv=.slice p len c∧len=N.length:=by
 rcases Go.Joins.ownsRow_forms h.row with ⟨rfl,h0⟩ | ⟨g1,c,rfl⟩
 · exact⟨_,_,_,rfl,h0.symm⟩
 · exact⟨_,_,_,rfl,rfl⟩
theorem Rt.setAny (h:Rt b lb lo cap nv L m N ee wh w) {k:Nat} (hb:k≠b) (hl:lb≠k) (hr:nv.ownBlock≠some k) (i:Nat) (v:Value) :
  Rt b lb lo cap nv L m N ee wh (w.setCell ⟨k,i,none⟩ v):=by
 refine ⟨h.ends,by rw[heap_set_other _ _ _ _ _ hb.symm];exact h.blk,h.toks.of_block (heap_set_other _ _ _ _ _ hl),?_,h.low,h.pos,h.cnt⟩;exact h.row.kept (row:=some k) ⟨rfl,rfl,rfl,by simp[World.setCell],fun j hj hn=>heap_set_other _ _ _ _ _ (fun e=>hn (by rw[e]))⟩ (Or.inr hr)
theorem Loc.four {k:Nat} {v0 v1 v2 v3:Value} {t:TypeId} (h:Loc b nv k (.cells #[v0,v1,v2,v3] t (0,0)) w):w.cell? ⟨k,0,none⟩=some v0∧w.cell? ⟨k,1,none⟩=some v1∧w.cell? ⟨k,2,none⟩=some v2∧w.cell? ⟨k,3,none⟩=some v3 ∧
  w.frozen? ⟨k,0,none⟩=false∧w.frozen? ⟨k,1,none⟩=false∧w.frozen? ⟨k,2,none⟩=false∧w.frozen? ⟨k,3,none⟩=false∧k<w.heap.size:=by
 have:=h.is
 refine ⟨?_,?_,?_,?_,?_,?_,?_,?_,h.lt⟩<;>simp[World.cell?,World.frozen?,this]
theorem qeG (hee:ee≠0) (h:Rt b lb lo cap nv L m N ee wh w) (k0:Int) :
  Calls Tryz.prog 179 #[.pointer (some ⟨b,0,none⟩),.int .i64 k0] w fun e w'=>e=.returned (.agg #[.int .i64 0,.int .i64 0,.string ⟨#[]⟩,.int .i64 0])∧Ext w w':=by
 refine yad ?_;intro FL
 obtain⟨c0,c1,c2,c3,c4,f1,f2,f3,f4,hb⟩:=h.facts
 obtain⟨t0,t1,t2,t3,hlb⟩:=h.tokFacts
 have hp:(m:Int)<(L.length:Int):=by have:=h.pos;omega
 have hp0:0≤(m:Int):=by omega
 have hmx:(m:Int)≤5000:=by have:=h.ends.few;have:=h.pos;omega
 have hne1:lb≠b:=by have:=h.low;omega
 obtain⟨⟨⟨k,ts,i⟩,a⟩,htt⟩:∃ tt,tk L m=tt:=⟨_,rfl⟩
 rw[htt] at t0 t1 t2 t3;dsimp only at t0 t1 t2 t3
 have q:(ee !=0)=true:=by simpa using hee
 clear htt h c2 c4 f1 f2 f3 f4 hmx hee
 cases hk:(k !=k0)
 all_goals
  go_enter Tryz.func179,Tryz.ntmps179;go_wp2_with fail;refine yay ⟨?_⟩;refine yac ?_
  iterate 10 (refine Lex.step rfl ?_;intro K hK;unfold StepG;go_simp;refine hK _ ?_;clear hK K)
  refine Lex.alloc 5 (.cells #[.int .i64 0,.int .i64 0,.string ⟨#[]⟩,.int .i64 0] 186) rfl rfl (fun d os=>?_) ?_
  · unfold StepG
    go_simp;exact yaj
  refine Lex.nil fun WW hE=>?_
  intro u hu
  obtain⟨dt1,ot1,dt2,ot2,rfl,rfl⟩:=hu.split hE
  clear hu hE;go_simp;unfold FillH;go_wp2_with fail;rw[ends_normal]
  go_wp2_with ((go_at_call 119;(with_reducible refine (FL.out _ _ zab).mono ?_);rintro e _ ⟨rfl,d2,os2,rfl⟩))
  exact bodyPost_ret (v:=(.agg #[.int .i64 0,.int .i64 0,.string ⟨#[]⟩,.int .i64 0])) (by simp[results,Tryz.results179,go_sem]) rfl ⟨rfl,zab⟩
theorem qgb (h:Rt b lb lo cap nv L m N 0 0 w) (k0:Int) (h0:k0≠0) (r:PR Tok) (hr:ofP L k0 m N.length=r) :
  Calls Tryz.prog 179 #[.pointer (some ⟨b,0,none⟩),.int .i64 k0] w (RPost (fun t=>tokV t (tk L m).2) isTok b lb lo cap nv L m N w r):=by
 have FL:RowKit.Hid (∀ w1,Ext w w1→Calls Tryz.prog 119 #[.pointer (some ⟨b,0,none⟩),.int .i64 3] w1 fun e w'=>e=.returned (.tuple #[])∧Rt b lb lo cap nv L m N 3 (tk L m).2 w'∧Kp b nv nv w1 w'):=Lib.hid fun w1 hx=>qbH (h.ext hx) 3 zak
 obtain⟨c0,c1,c2,c3,c4,f1,f2,f3,f4,hb⟩:=h.facts
 obtain⟨t0,t1,t2,t3,hlb⟩:=h.tokFacts
 have hp:(m:Int)<(L.length:Int):=by have:=h.pos;omega
 have hp0:0≤(m:Int):=by omega
 have hmx:(m:Int)≤5000:=by have:=h.ends.few;have:=h.pos;omega
 have hne1:lb≠b:=by have:=h.low;omega
 have hnx:(tk L m).1.k=k0→m+1<L.length:=fun e=>h.next (by rw[e];exact h0)
 have H:=Lib.hid h;have LZ:=Lib.hid (h.loc (.cells #[.int .i64 0,.int .i64 0,.string ⟨#[]⟩,.int .i64 0] 186 (0,0)))
 obtain⟨⟨⟨k,ts,i⟩,a⟩,htt⟩:∃ tt,tk L m=tt:=⟨_,rfl⟩
 unfold ofP at hr;rw[htt] at t0 t1 t2 t3 hr hnx FL ⊢;unfold tokV;dsimp only at t0 t1 t2 t3 hr hnx FL ⊢;clear htt h c2 c4 f2 f3 f4
 by_cases hk:k=k0
 · rw[if_pos hk] at hr
   have NX:=Lib.hid (hnx hk);subst hk;subst hr;clear hnx
   have hkk:(k !=k)=false:=by simp
   go_enter Tryz.func179,Tryz.ntmps179;go_wp2_with fail;refine yay ⟨?_⟩;refine yac ?_
   iterate 10 (refine Lex.step rfl ?_;intro K hK;unfold StepG;go_simp;refine hK _ ?_;clear hK K)
   refine Lex.alloc 5 (.cells #[.int .i64 0,.int .i64 0,.string ⟨#[]⟩,.int .i64 0] 186) rfl rfl (fun d os=>?_) ?_
   · unfold StepG
     go_simp;exact yaj
   refine Lex.nil fun WW hE=>?_
   intro u hu
   obtain⟨dt1,ot1,dt2,ot2,rfl,rfl⟩:=hu.split hE
   clear hu hE;go_simp;unfold FillH;go_wp2_with fail;rw[ends_normal];go_wp2_with fail;refine bodyPost_ret (v:=.agg #[.int .i64 k,.int .i64 a,.string ts,.int .i64 i]) (by simp[results,Tryz.results179,go_sem]) rfl ?_;refine RPost.res (nv':=nv) rfl (Rt.cast (N:=N) ?_ (List.append_nil N).symm) ?_ (Nat.le_succ _)
   · have HS:=Lib.hid (H.out.setAt (m+1) ((m:Int)+1) zac NX.out)
     repeat(first | (with_reducible exact HS.out) | (with_reducible apply Rt.alloc) | (with_reducible apply Rt.more))
   · have HK:=Lib.hid ((Kp.refl b nv w).setB 1 (.int .i64 ((m:Int)+1)))
     repeat(first | (with_reducible exact HK.out) | (with_reducible apply Kp.alloc) | (with_reducible apply Kp.more))
 · rw[if_neg hk] at hr
   subst hr
   have hkk:(k !=k0)=true:=by simpa using hk
   clear hnx hk;go_enter Tryz.func179,Tryz.ntmps179;go_wp2_with fail;refine yay ⟨?_⟩;refine yac ?_
   iterate 10 (refine Lex.step rfl ?_;intro K hK;unfold StepG;go_simp;refine hK _ ?_;clear hK K)
   refine Lex.alloc 5 (.cells #[.int .i64 0,.int .i64 0,.string ⟨#[]⟩,.int .i64 0] 186) rfl rfl (fun d os=>?_) ?_
   · unfold StepG
     go_simp;exact yaj
   refine Lex.nil fun WW hE=>?_
   intro u hu
   obtain⟨dt1,ot1,dt2,ot2,rfl,rfl⟩:=hu.split hE
   clear hu hE;go_simp;unfold FillH;go_wp2_with fail;rw[ends_normal]
   go_wp2_with ((go_at_call 119;refine (FL.out _ zab).mono ?_;rintro e w2 ⟨rfl,hs2,hk2⟩;have HS2:=Lib.hid hs2;have HK2:=Lib.hid hk2;have L2:=Loc.kp (show Loc b nv w.heap.size (.cells #[.int .i64 0,.int .i64 0,.string ⟨#[]⟩,.int .i64 0] 186 (0,0)) _ from by repeat(first | (with_reducible exact LZ.out) | (with_reducible apply Loc.alloc) | (with_reducible apply Loc.more))) hk2;clear hs2 hk2;obtain⟨u0,u1,u2,u3,u4,y0,y1,y2,y3,hbb⟩:=HS2.out.facts;obtain⟨x0,x1,x2,x3,g0,g1,g2,g3,hx⟩:=L2.four;have L2:=Lib.hid L2;clear u0 u1 u2 u4))
   have HKW:=Lib.hid (((Kp.refl b nv w).ext zab).trans HK2.out);exact bodyPost_ret (v:=(.agg #[.int .i64 0,.int .i64 0,.string ⟨#[]⟩,.int .i64 0])) (by simp[results,Tryz.results179,go_sem,x0,x1,x2,x3,hx]) rfl (RPost.err zak ⟨_,_,_,_,rfl⟩ (nv':=nv) (m':=m) (N':=N) (by repeat(first | (with_reducible exact HS2.out) | (refine Rt.setAny ?_ L2.out.ne (by have:=HS2.out.low;have:=H.out.lt;have:=H.out.low;omega) L2.out.nr _ _))) (by repeat(first | (with_reducible exact HKW.out) | (refine Kp.setNew ?_ (Nat.le_refl _) _ _))))
theorem qeE (hee:ee≠0) (h:Rt b lb lo cap nv L m N ee wh w) (zk za zb zc zx zi:Int) (zs zt:ByteArray) :
  Calls Tryz.prog 183 #[.pointer (some ⟨b,0,none⟩),.agg #[.int .i64 zk,.int .i64 za,.int .i64 zb,.int .i64 zc,.int .i64 zx,.int .i64 zi,.string zs,.string zt]] w fun e w'=>e=.returned (.int .i64 (-1))∧Ext w w':=by
 refine yad ?_;intro FL
 obtain⟨len,c,p,rfl,hlen⟩:=qgo h
 have hcnt:=h.cnt;subst hlen
 have hcnt2:(N.length:Int)≤512:=by omega
 obtain⟨c0,c1,c2,c3,c4,f1,f2,f3,f4,hb⟩:=h.facts
 have q:(ee !=0)=true:=by simpa using hee
 clear h c0 c1 c4 f1 f2 f3 f4 hee hcnt
 by_cases h5:512≤(N.length:Int)
 · have h6:((512:Int)≤(N.length:Int))=True:=eq_true h5
   clear h5 hcnt2;go_enter Tryz.func183,Tryz.ntmps183
   go_wp2_with ((go_at_call 119;(with_reducible refine (FL.out _ _ zab).mono ?_);rintro e _ ⟨rfl,d2,os2,rfl⟩))
   go_ret
   exact⟨rfl,zab⟩
 · have h6:((512:Int)≤(N.length:Int))=False:=eq_false h5
   clear h5 hcnt2;go_enter Tryz.func183,Tryz.ntmps183
   go_wp2_with ((go_at_call 119;(with_reducible refine (FL.out _ _ zab).mono ?_);rintro e _ ⟨rfl,d2,os2,rfl⟩))
   go_ret
   exact⟨rfl,zab⟩
theorem qfV (h:Rt b lb lo cap nv L m N 0 0 w) (zk za zb zc zx zi:Int) (zs zt:ByteArray) (r:PR Int) (hr:layP L ⟨zk,za,zb,zc,zx,zi,zs,zt⟩ m N.length=r) :
  Calls Tryz.prog 183 #[.pointer (some ⟨b,0,none⟩),.agg #[.int .i64 zk,.int .i64 za,.int .i64 zb,.int .i64 zc,.int .i64 zx,.int .i64 zi,.string zs,.string zt]] w (RPost intV isInt b lb lo cap nv L m N w r):=by
 have FL:RowKit.Hid (∀ w1,Ext w w1→Calls Tryz.prog 119 #[.pointer (some ⟨b,0,none⟩),.int .i64 5] w1 fun e w'=>e=.returned (.tuple #[])∧Rt b lb lo cap nv L m N 5 (tk L m).2 w'∧Kp b nv nv w1 w'):=Lib.hid fun w1 hx=>qbH (h.ext hx) 5 zak
 obtain⟨len,c,p,rfl,hlen⟩:=qgo h
 have hcnt:=h.cnt;subst hlen;have H:=Lib.hid h
 obtain⟨c0,c1,c2,c3,c4,f1,f2,f3,f4,hb⟩:=h.facts
 unfold layP at hr
 by_cases h5:N.length=512
 · rw[if_pos h5] at hr
   subst hr
   have q5:((512:Int)≤(N.length:Int))=True:=eq_true zac
   clear h h5 c0 c1 c3 c4 f1 f3 f4 hcnt;go_enter Tryz.func183,Tryz.ntmps183
   go_wp2_with ((go_at_call 119;refine (FL.out _ zab).mono ?_;rintro e w2 ⟨rfl,hs2,hk2⟩;have HS2:=Lib.hid hs2;have HK2:=Lib.hid hk2;clear hs2 hk2;obtain⟨u0,u1,u2,u3,u4,y0,y1,y2,y3,hbb⟩:=HS2.out.facts;clear u0 u1 u2 u4))
   go_ret;exact RPost.err zak ⟨_,rfl⟩ HS2.out (((Kp.refl b _ w).ext zab).trans HK2.out)
 · rw[if_neg h5] at hr
   subst hr
   have q5:((512:Int)≤(N.length:Int))=False:=eq_false zac
   have h512:N.length<512:=by omega
   have H5:=Lib.hid h512
   have hmx:(N.length:Int)≤511:=by omega
   obtain⟨i0,hi,hz0,hz1,hz2⟩:=info_parts ndInfo
   clear h h5 c0 c1 c4 f1 f3 f4 h512 hcnt FL;go_enter Tryz.func183,Tryz.ntmps183;go_wp2_with fail;refine qaa 7 34 [true,false,false,false,false,false,false] zaf zaf rfl ?_;refine yac ?_;refine Lex.stepP rfl rfl ?_;intro K hK;go_simp;refine hK _ ?_;clear hK K
   iterate 5 (refine Lex.step rfl ?_;intro K hK;unfold StepG;go_simp;refine hK _ ?_;clear hK K)
   refine Lex.sliceLit 24 (.cells #[.int .i64 zk,.int .i64 za,.int .i64 zb,.int .i64 zc,.int .i64 zx,.int .i64 zi,.string zs,.string zt] 166) 1 1 rfl rfl (fun d os=>?_) ?_
   · unfold StepG
     go_simp
     exact⟨(Ext.refl _).alloc _,NewSl.of_alloc _ _ _ _ _ _ _ zbf⟩
   refine Lex.nil fun WW hE=>?_
   intro u hu
   obtain⟨d1,os1,d2,os2,rfl,rfl⟩:=hu.split hE
   clear hu hE;go_simp;unfold FillH
   go_wp2_with (at_builtin;refine wpList_append_own_at _ rfl _ _ 130 rfl (b+1) 166 i0 (.agg #[.int .i64 0,.int .i64 0,.int .i64 0,.int .i64 0,.int .i64 0,.int .i64 0,.string ⟨#[]⟩,.string ⟨#[]⟩]) 8 80 Tryz.underlying130 hi hz0 hz1 hz2 rfl zak (.slice p N.length c) N.length (qac N) rfl ?c0 ⟨_,0,none⟩ 1 1 [.int .i64 zk,.int .i64 za,.int .i64 zb,.int .i64 zc,.int .i64 zx,.int .i64 zi,.string zs,.string zt] rfl rfl ?c1 ?c2 ?c3 ?c4 ?c5 ?_)
   case c0=>repeat(first | (with_reducible exact H.out.row) | (with_reducible apply own_more) | (with_reducible refine World.ownsRow.alloc ?_ _))
   case c1=>exact qeu zbf
   case c2=>intro u hu;simp at hu;rcases hu with rfl | rfl | rfl | rfl | rfl | rfl | rfl | rfl<;>rfl
   case c3=>unfold maxLen;omega
   case c4=>omega
   case c5=>simp[more_size];omega
   intro v' w1 hown' hgrow _ hblk
   have HS:RowKit.Hid (Rt b lb lo cap v' L m (N++[⟨zk,za,zb,zc,zx,zi,zs,zt⟩]) 0 0 (w1.setCell ⟨b,2,none⟩ v')):=Lib.hid (Rt.push (by repeat(first | (with_reducible exact H.out) | (with_reducible apply Rt.alloc) | (with_reducible apply Rt.more))) hown' hgrow H5.out)
   have HK:RowKit.Hid (Kp b (.slice p N.length c) v' w (w1.setCell ⟨b,2,none⟩ v')):=Lib.hid (Kp.push (by repeat(first | (with_reducible exact Kp.refl _ _ _) | (with_reducible apply Kp.alloc) | (with_reducible apply Kp.more))) hgrow (by simp only[more_size,World.size_alloc];exact hblk))
   obtain⟨hc2,hb1,hb2⟩:=Rt.grownFacts (show Rt b lb lo cap (.slice p N.length c) L m N 0 0 _ from by repeat(first | (with_reducible exact H.out) | (with_reducible apply Rt.alloc) | (with_reducible apply Rt.more))) hgrow
   have hb3:∃ g cap1,v'=.slice (some ⟨g,0,none⟩) (N.length+1) cap1:=by obtain⟨g1,cap1,rfl,_,_⟩:=hown'.form zac;exact⟨_,_,rfl⟩
   obtain⟨g1,cap1,rfl⟩:=hb3
   clear hown' hgrow hblk;go_wp2_with fail
   first | rw[ends_normal] | skip
   go_wp2_with fail;go_ret;exact RPost.res (by first | rfl | (show Ending.returned (.int .i64 _)=_;exact ret_int zac)) HS.out HK.out (Nat.le_refl _)
theorem rturns_dead (hee:ee≠0) (h:Rt b lb lo cap nv L m N ee wh w) :
  Calls Tryz.prog 186 #[.pointer (some ⟨b,0,none⟩)] w fun e w'=>e=.returned (.int .i64 0)∧Ext w w':=by
 refine yad ?_;intro FL
 have KD:RowKit.Hid (∀ (c:Int) w1,Ext w w1→Calls Tryz.prog 179 #[.pointer (some ⟨b,0,none⟩),.int .i64 c] w1 fun e w'=>e=.returned (.agg #[.int .i64 0,.int .i64 0,.string ⟨#[]⟩,.int .i64 0])∧Ext w1 w'):=Lib.hid fun c w1 hx=>qeG hee (h.ext hx) c
 obtain⟨c0,c1,c2,c3,c4,f1,f2,f3,f4,hb⟩:=h.facts
 obtain⟨t0,t1,t2,t3,hlb⟩:=h.tokFacts
 have hp:(m:Int)<(L.length:Int):=by have:=h.pos;omega
 have hp0:0≤(m:Int):=by omega
 have hne1:lb≠b:=by have:=h.low;omega
 obtain⟨⟨⟨k,ts,i⟩,a⟩,htt⟩:∃ tt,tk L m=tt:=⟨_,rfl⟩
 rw[htt] at t0 t1 t2 t3;dsimp only at t0 t1 t2 t3;clear htt h c2 c4 f1 f2 f3 f4 hee
 cases hk:(k==2)
 ·
   go_enter Tryz.func186,Tryz.ntmps186;go_wp2_with fail;refine ybc ⟨?_⟩;refine yac ?_
   iterate 10 (refine Lex.step rfl ?_;intro K hK;unfold StepG;go_simp;refine hK _ ?_;clear hK K)
   refine Lex.alloc 3 (.cells #[.int .i64 0,.int .i64 0,.string ⟨#[]⟩,.int .i64 0] 186) rfl rfl (fun d os=>?_) ?_
   · unfold StepG
     go_simp;exact yaj
   refine Lex.nil fun WW hE=>?_
   intro u hu
   obtain⟨dt1,ot1,dt2,ot2,rfl,rfl⟩:=hu.split hE
   clear hu hE;go_simp;unfold FillH;go_wp2_with fail;rw[ends_normal]
   go_wp2_with (first | ((go_at_call 119;(with_reducible refine (FL.out _ _ zab).mono ?_);rintro e _ ⟨rfl,d2,os2,rfl⟩)) | ((go_at_call 179;(with_reducible refine (KD.out _ _ zab).mono ?_);rintro e _ ⟨rfl,d3,os3,rfl⟩)))
   go_ret
   exact⟨rfl,zab⟩
 · by_cases hi:64<i
   ·
     go_enter Tryz.func186,Tryz.ntmps186;go_wp2_with fail;refine ybc ⟨?_⟩;refine yac ?_
     iterate 10 (refine Lex.step rfl ?_;intro K hK;unfold StepG;go_simp;refine hK _ ?_;clear hK K)
     refine Lex.alloc 3 (.cells #[.int .i64 0,.int .i64 0,.string ⟨#[]⟩,.int .i64 0] 186) rfl rfl (fun d os=>?_) ?_
     · unfold StepG
       go_simp;exact yaj
     refine Lex.nil fun WW hE=>?_
     intro u hu
     obtain⟨dt1,ot1,dt2,ot2,rfl,rfl⟩:=hu.split hE
     clear hu hE;go_simp;unfold FillH;go_wp2_with fail;rw[ends_normal]
     go_wp2_with (first | ((go_at_call 119;(with_reducible refine (FL.out _ _ zab).mono ?_);rintro e _ ⟨rfl,d2,os2,rfl⟩)) | ((go_at_call 179;(with_reducible refine (KD.out _ _ zab).mono ?_);rintro e _ ⟨rfl,d3,os3,rfl⟩)))
     go_ret
     exact⟨rfl,zab⟩
   · have hi2:i≤64:=by omega
     clear hi;go_enter Tryz.func186,Tryz.ntmps186;go_wp2_with fail;refine ybc ⟨?_⟩;refine yac ?_
     iterate 10 (refine Lex.step rfl ?_;intro K hK;unfold StepG;go_simp;refine hK _ ?_;clear hK K)
     refine Lex.alloc 3 (.cells #[.int .i64 0,.int .i64 0,.string ⟨#[]⟩,.int .i64 0] 186) rfl rfl (fun d os=>?_) ?_
     · unfold StepG
       go_simp;exact yaj
     refine Lex.nil fun WW hE=>?_
     intro u hu
     obtain⟨dt1,ot1,dt2,ot2,rfl,rfl⟩:=hu.split hE
     clear hu hE;go_simp;unfold FillH;go_wp2_with fail;rw[ends_normal]
     go_wp2_with (first | ((go_at_call 119;(with_reducible refine (FL.out _ _ zab).mono ?_);rintro e _ ⟨rfl,d2,os2,rfl⟩)) | ((go_at_call 179;(with_reducible refine (KD.out _ _ zab).mono ?_);rintro e _ ⟨rfl,d3,os3,rfl⟩)))
     go_ret
     exact⟨rfl,zab⟩
theorem rturns_any (h:Rt b lb lo cap nv L m N 0 0 w) (r:PR Int) (hr:qbn L m N.length=r) :
  Calls Tryz.prog 186 #[.pointer (some ⟨b,0,none⟩)] w (RPost intV isInt b lb lo cap nv L m N w r):=by
 have FL:RowKit.Hid (∀ w1,Ext w w1→Calls Tryz.prog 119 #[.pointer (some ⟨b,0,none⟩),.int .i64 8] w1 fun e w'=>e=.returned (.tuple #[])∧Rt b lb lo cap nv L m N 8 (tk L m).2 w'∧Kp b nv nv w1 w'):=Lib.hid fun w1 hx=>qbH (h.ext hx) 8 zak
 obtain⟨c0,c1,c2,c3,c4,f1,f2,f3,f4,hb⟩:=h.facts
 obtain⟨t0,t1,t2,t3,hlb⟩:=h.tokFacts
 have hp:(m:Int)<(L.length:Int):=by have:=h.pos;omega
 have hp0:0≤(m:Int):=by omega
 have hne1:lb≠b:=by have:=h.low;omega
 have KA:RowKit.Hid (∀ w1,Ext w w1→Calls Tryz.prog 179 #[.pointer (some ⟨b,0,none⟩),.int .i64 2] w1 (RPost (fun t=>tokV t (tk L m).2) isTok b lb lo cap nv L m N w1 (ofP L 2 m N.length))):=Lib.hid fun w1 hx=>qgb (h.ext hx) 2 zak _ rfl
 have H:=Lib.hid h
 obtain⟨⟨⟨k,ts,i⟩,a⟩,htt⟩:∃ tt,tk L m=tt:=⟨_,rfl⟩
 unfold qbn pbind at hr;unfold ofP at KA hr;rw[htt] at t0 t1 t2 t3 FL KA hr;unfold tokV at KA;dsimp only at t0 t1 t2 t3 FL hr KA;clear htt h c2 c4 f1 f2 f3 f4
 by_cases hk:k=2
 · subst hk
   by_cases hi:64<i
   · rw[if_pos ⟨rfl,hi⟩] at hr
     subst hr;go_enter Tryz.func186,Tryz.ntmps186;go_wp2_with fail;refine ybc ⟨?_⟩;refine yac ?_
     iterate 10 (refine Lex.step rfl ?_;intro K hK;unfold StepG;go_simp;refine hK _ ?_;clear hK K)
     refine Lex.alloc 3 (.cells #[.int .i64 0,.int .i64 0,.string ⟨#[]⟩,.int .i64 0] 186) rfl rfl (fun d os=>?_) ?_
     · unfold StepG
       go_simp;exact yaj
     refine Lex.nil fun WW hE=>?_
     intro u hu
     obtain⟨dt1,ot1,dt2,ot2,rfl,rfl⟩:=hu.split hE
     clear hu hE;go_simp;unfold FillH;go_wp2_with fail;rw[ends_normal]
     go_wp2_with ((go_at_call 119;(with_reducible refine (FL.out _ zab).mono ?_);rintro e w2 ⟨rfl,hs2,hk2⟩;have HS2:=Lib.hid hs2;have HK2:=Lib.hid (((Kp.refl b nv w).ext zab).trans hk2);clear hs2 hk2))
     go_at_call 179
     refine (qeG zak HS2.out 2).mono ?_;rintro e _ ⟨rfl,d5,os5,rfl⟩;go_wp2_with fail;go_ret;exact RPost.err zak ⟨_,rfl⟩ (HS2.out.more _ _) (HK2.out.more _ _)
   · rw[if_neg zac,if_pos rfl] at hr
     rw[if_pos rfl] at KA;subst hr
     have hi2:i≤64:=by omega
     clear hi;go_enter Tryz.func186,Tryz.ntmps186;go_wp2_with fail;refine ybc ⟨?_⟩;refine yac ?_
     iterate 10 (refine Lex.step rfl ?_;intro K hK;unfold StepG;go_simp;refine hK _ ?_;clear hK K)
     refine Lex.alloc 3 (.cells #[.int .i64 0,.int .i64 0,.string ⟨#[]⟩,.int .i64 0] 186) rfl rfl (fun d os=>?_) ?_
     · unfold StepG
       go_simp;exact yaj
     refine Lex.nil fun WW hE=>?_
     intro u hu
     obtain⟨dt1,ot1,dt2,ot2,rfl,rfl⟩:=hu.split hE
     clear hu hE;go_simp;unfold FillH;go_wp2_with fail;rw[ends_normal]
     go_wp2_with ((go_at_call 179;refine (KA.out _ zab).mono ?_;rintro e w1 ⟨rfl,nv1,hs1,hk1,_⟩;have HS1:=Lib.hid hs1;have HK1:=Lib.hid (((Kp.refl b nv w).ext zab).trans hk1);clear hs1 hk1))
     go_ret;exact RPost.res rfl HS1.out HK1.out (Nat.le_succ _)
 · rw[if_neg zac,if_neg hk] at hr
   rw[if_neg hk] at KA;subst hr
   have hk2:(k==2)=false:=by simpa using hk
   clear hk;go_enter Tryz.func186,Tryz.ntmps186;go_wp2_with fail;refine ybc ⟨?_⟩;refine yac ?_
   iterate 10 (refine Lex.step rfl ?_;intro K hK;unfold StepG;go_simp;refine hK _ ?_;clear hK K)
   refine Lex.alloc 3 (.cells #[.int .i64 0,.int .i64 0,.string ⟨#[]⟩,.int .i64 0] 186) rfl rfl (fun d os=>?_) ?_
   · unfold StepG
     go_simp;exact yaj
   refine Lex.nil fun WW hE=>?_
   intro u hu
   obtain⟨dt1,ot1,dt2,ot2,rfl,rfl⟩:=hu.split hE
   clear hu hE;go_simp;unfold FillH;go_wp2_with fail;rw[ends_normal]
   go_wp2_with ((go_at_call 179;refine (KA.out _ zab).mono ?_;rintro e w1 ⟨hc,⟨v,rfl,kq,aq,sq,iq,rfl⟩,nv1,m1,N1,hs1,hk1⟩;have HC:=Lib.hid hc;have HS1:=Lib.hid hs1;have HK1:=Lib.hid (((Kp.refl b nv w).ext zab).trans hk1);clear hs1 hk1 hc))
   go_ret;exact RPost.err HC.out ⟨_,rfl⟩ HS1.out HK1.out
def SignZ (z:Int) (ss:List ByteArray):Prop:=(z=0∧ss=ssOr)∨(z=1∧ss=ssAnd)∨(z=2∧ss=ssIs)∨(z=3∧ss=qdL)∨(z=4∧ss=ssSum)∨(z=5∧ss=qcs)
theorem qfP {s:ByteArray} (h:SignZ z ss) (hs:s∈ss):(s.size:Int)≤100∧s.toList.isEmpty=false:=by
 rcases h with ⟨_,rfl⟩ | ⟨_,rfl⟩ | ⟨_,rfl⟩ | ⟨_,rfl⟩ | ⟨_,rfl⟩ | ⟨_,rfl⟩
 · simp only[ssOr,List.mem_cons,List.not_mem_nil,or_false] at hs
   subst hs;exact⟨by decide,by kernel_rfl⟩
 · simp only[ssAnd,List.mem_cons,List.not_mem_nil,or_false] at hs
   subst hs;exact⟨by decide,by kernel_rfl⟩
 · simp only[ssIs,List.mem_cons,List.not_mem_nil,or_false] at hs
   rcases hs with rfl | rfl | rfl | rfl | rfl | rfl<;>exact⟨by decide,by kernel_rfl⟩
 · simp only[qdL,List.mem_cons,List.not_mem_nil,or_false] at hs
   subst hs;exact⟨by decide,by kernel_rfl⟩
 · simp only[ssSum,List.mem_cons,List.not_mem_nil,or_false] at hs
   rcases hs with rfl | rfl<;>exact⟨by decide,by kernel_rfl⟩
 · simp only[qcs,List.mem_cons,List.not_mem_nil,or_false] at hs
   rcases hs with rfl | rfl | rfl<;>exact⟨by decide,by kernel_rfl⟩
theorem sign_len (h:SignZ z ss):ss.length≤6:=by
 rcases h with ⟨_,rfl⟩ | ⟨_,rfl⟩ | ⟨_,rfl⟩ | ⟨_,rfl⟩ | ⟨_,rfl⟩ | ⟨_,rfl⟩<;>decide
theorem sign_get (h:SignZ z ss) (j:Nat):((ss.getD j ⟨#[]⟩).size:Int)≤100:=by
 by_cases hj:j<ss.length
 · refine (qfP h ?_).1
   simp[List.getD,List.getElem?_eq_getElem hj]
 · have:ss.getD j ⟨#[]⟩=⟨#[]⟩:=by simp[List.getD,List.getElem?_eq_none (Nat.le_of_not_lt hj)]
   rw[this];decide
theorem signs_any (z:Int) (ss:List ByteArray) (hz:SignZ z ss) (w:World) :
  Calls Tryz.prog 232 #[.int .i64 z] w fun e w'=>e=.returned (.slice (some ⟨w.heap.size,0,none⟩) ss.length ss.length)∧w'=w.alloc (strs ss):=by
 rcases hz with ⟨rfl,rfl⟩ | ⟨rfl,rfl⟩ | ⟨rfl,rfl⟩ | ⟨rfl,rfl⟩ | ⟨rfl,rfl⟩ | ⟨rfl,rfl⟩
 all_goals
  go_enter Tryz.func232,Tryz.ntmps232;go_wp2_with fail;go_ret
  exact⟨rfl,rfl⟩
def optS:Option ByteArray→Value
 | none=>.string ⟨#[]⟩
 | some s=>.string s
def isStr (v:Value):Prop:=∃ s,v=.string s
theorem qdK (hee:ee≠0) (h:Rt b lb lo cap nv L m N ee wh w) (z:Int) (ss:List ByteArray) (hz:SignZ z ss) :
  Calls Tryz.prog 226 #[.pointer (some ⟨b,0,none⟩),.int .i64 z] w fun e w'=>e=.returned (.string ⟨#[]⟩)∧Ext w w':=by
 have SG:=Lib.hid (signs_any z ss hz);have hsm:=sign_get hz;have hss:=sign_len hz;have H:=Lib.hid h;have G:=Lib.hid (h.loc (strs ss));have HE:=Lib.hid hee;have SM:=Lib.hid hsm
 have hsz:(ss.length:Int)≤6:=by omega
 clear h hee hz hsm;go_enter Tryz.func226,Tryz.ntmps226
 go_wp2_with (((with_reducible refine (SG.out _).mono ?_);rintro e _ ⟨rfl,rfl⟩))
 go_loopw [6] (fun i wr=>∃ j:Nat,i=.int .i64 (j:Int)∧j≤ss.length∧Ext (w.alloc (strs ss)) wr) (fun i _=>ss.length-(intOf i).toNat)
 case atStart=>exact⟨0,rfl,Nat.zero_le _,Ext.refl _⟩
 case round =>
  obtain⟨j,rfl,hj,hx⟩:=hrel
  have HX:=Lib.hid hx
  by_cases hlt:j<ss.length
  · have hlt2:(j:Int)<(ss.length:Int):=by omega
    have hj0:0≤(j:Int):=by omega
    have hcell:=((G.out.ext hx).str j hlt)
    have hsj:=SM.out j
    obtain⟨s,hs⟩:∃ s,ss.getD j ⟨#[]⟩=s:=⟨_,rfl⟩
    rw[hs] at hcell hsj;have T:=Lib.hid (qeL HE.out ((H.out.alloc _).ext hx) s hsj);clear hlt hs hx hsj
    go_wp2_with (((with_reducible refine T.out.mono ?_);rintro e _ ⟨rfl,d,os,rfl⟩))
    go_roundw
    case rel=>exact⟨j+1,by go_num,by omega,HX.out.more _ _⟩
    case measure=>simp[intOf];omega
  · have hge:(ss.length:Int)≤(j:Int):=by omega
    clear hx hlt;go_wp2_with fail;go_ret
    exact⟨rfl,((Ext.refl _).alloc _).trans HX.out⟩
theorem qde (h:Rt b lb lo cap nv L m N 0 0 w) (z:Int) (ss:List ByteArray) (hz:SignZ z ss) (r:PR (Option ByteArray)) (hr:qaL L ss m N.length=r) :
  Calls Tryz.prog 226 #[.pointer (some ⟨b,0,none⟩),.int .i64 z] w (RPost optS isStr b lb lo cap nv L m N w r):=by
 have SG:=Lib.hid (signs_any z ss hz);have hsm:=sign_get hz;have hss:=sign_len hz;have H:=Lib.hid h;have G:=Lib.hid (h.loc (strs ss));have SM:=Lib.hid hsm
 have hr2:findP L m ss=r:=hr
 have R:=Lib.hid hr2
 have hsz:(ss.length:Int)≤6:=by omega
 clear h hz hsm hr hr2;go_enter Tryz.func226,Tryz.ntmps226
 go_wp2_with (((with_reducible refine (SG.out _).mono ?_);rintro e _ ⟨rfl,rfl⟩))
 go_loopw [6] (fun i wr=>∃ j:Nat,i=.int .i64 (j:Int)∧j≤ss.length∧Ext (w.alloc (strs ss)) wr∧findP L m (ss.drop j)=r) (fun i _=>ss.length-(intOf i).toNat)
 case atStart=>exact⟨0,rfl,Nat.zero_le _,Ext.refl _,R.out⟩
 case round =>
  obtain⟨j,rfl,hj,hx,hr⟩:=hrel
  have HX:=Lib.hid hx
  by_cases hlt:j<ss.length
  · have hlt2:(j:Int)<(ss.length:Int):=by omega
    have hj0:0≤(j:Int):=by omega
    have hcell:=((G.out.ext hx).str j hlt)
    have hsj:=SM.out j;rw[qeS ss j ⟨#[]⟩ hlt] at hr
    obtain⟨s,hs⟩:∃ s,ss.getD j ⟨#[]⟩=s:=⟨_,rfl⟩
    rw[hs] at hcell hsj hr
    cases hp:isP L s m
    · rw[findP_no hp] at hr
      have R2:=Lib.hid hr;have T:=Lib.hid (take_no ((H.out.alloc (strs ss)).ext hx) s hsj hp);clear hlt hs hp R hr hx hsj
      go_wp2_with (((with_reducible refine T.out.mono ?_);rintro e _ ⟨rfl,d,os,rfl⟩))
      go_roundw
      case rel=>exact⟨j+1,by go_num,by omega,HX.out.more _ _,R2.out⟩
      case measure=>simp[intOf];omega
    · rw[findP_yes hp] at hr
      have R2:=Lib.hid hr;have T:=Lib.hid (qgp ((H.out.alloc (strs ss)).ext hx) s hsj hp);have G2:=Lib.hid (G.out.ext hx);have JL:=Lib.hid hlt;have HSJ:=Lib.hid hs;clear hlt hs hp hr R hx hsj
      go_wp2_with (((with_reducible refine T.out.mono ?_);rintro e w2 ⟨rfl,hs2,hk2⟩;have hcell2:=((G2.out.kp hk2).str j JL.out);rw[HSJ.out] at hcell2;have HS2:=Lib.hid hs2;have HK2:=Lib.hid ((((Kp.refl b nv w).alloc _).ext HX.out).trans hk2);clear hs2 hk2))
      go_ret
      have:=R2.out
      subst this;exact RPost.res rfl (HS2.out.cast (List.append_nil N).symm) HK2.out (Nat.le_succ _)
  · have hge:(ss.length:Int)≤(j:Int):=by omega
    have e:ss.drop j=[]:=List.drop_eq_nil_of_le zac
    rw[e] at hr;have R2:=Lib.hid hr;clear hr e hx hlt;go_wp2_with fail;go_ret
    have:=R2.out
    subst this;exact RPost.res rfl (((H.out.alloc _).ext HX.out).cast (List.append_nil N).symm) (((Kp.refl b nv w).alloc _).ext HX.out) (Nat.le_refl _)
def nine:List ByteArray:=[⟨#[108,101,116]⟩,⟨#[115,101,116]⟩,⟨#[112,117,116]⟩,⟨#[100,101,108,101,116,101]⟩,⟨#[97,98,111,114,116]⟩,⟨#[114,101,116,117,114,110]⟩,⟨#[105,102]⟩,⟨#[102,111,114]⟩,⟨#[114,101,112,101,97,116]⟩]
def qaW (L:Toks) (m:Nat):Bool:=(tk L m).1.k==5&&nine.any fun s=>(tk L m).1.s.toList==s.toList
theorem nine_snoc (t:ByteArray) (j:Nat) (h:j<nine.length):(nine.take (j+1)).any (fun s=>t.toList==s.toList)=((nine.take j).any (fun s=>t.toList==s.toList)||t.toList==(nine.getD j ⟨#[]⟩).toList):=by
 have e:nine.take (j+1)=nine.take j++[nine.getD j ⟨#[]⟩]:=by
  rw[List.take_succ_eq_append_getElem h]
  congr 2
  simp[List.getD,List.getElem?_eq_getElem h]
 rw[e,List.any_append]
 simp
theorem nine_done (t:ByteArray) (j:Nat) (h:j<nine.length) (he:(t.toList==(nine.getD j ⟨#[]⟩).toList)=true):nine.any (fun s=>t.toList==s.toList)=true:=by
 rw[List.any_eq_true];refine ⟨nine.getD j ⟨#[]⟩,?_,he⟩
 simp[List.getD,List.getElem?_eq_getElem h]
theorem begins_any (h:Rt b lb lo cap nv L m N 0 0 w) :
  Calls Tryz.prog 145 #[.pointer (some ⟨b,0,none⟩)] w fun e w'=>e=.returned (.bool (qaW L m))∧Ext w w':=by
 have H:=Lib.hid h;have G:=Lib.hid (h.loc (strs nine))
 have hp:(m:Int)<(L.length:Int):=by have:=h.pos;omega
 have hp0:0≤(m:Int):=by omega
 have hnl:nine.length=9:=rfl
 obtain⟨⟨⟨k,ts,i⟩,a⟩,htt⟩:∃ tt,tk L m=tt:=⟨_,rfl⟩
 have HT:=Lib.hid htt;unfold qaW;rw[htt];dsimp only;clear htt h
 obtain⟨B,hB⟩:∃ B,(k==5&&nine.any fun s=>ts.toList==s.toList)=B:=⟨_,rfl⟩
 rw[hB];have HB:=Lib.hid hB;clear hB;go_enter Tryz.func145,Tryz.ntmps145;go_wp2_with fail;go_loopw [7] (fun i wr=>∃ j:Nat,i=.int .i64 (j:Int)∧j≤9∧Ext (w.alloc (strs nine)) wr∧((k==5)=true→(nine.take j).any (fun s=>ts.toList==s.toList)=false)) (fun i _=>9-(intOf i).toNat)
 case atStart=>exact⟨0,rfl,Nat.zero_le _,Ext.refl _,fun _=>rfl⟩
 case round =>
  obtain⟨j,rfl,hj,hx,hno⟩:=hrel
  have HX:=Lib.hid hx;have HNO:=Lib.hid hno
  by_cases hlt:j<9
  · have hlt2:(j:Int)<9:=by omega
    have hj0:0≤(j:Int):=by omega
    have hcell:=((G.out.ext hx).str j (by rw[hnl];exact hlt))
    have H1:=(H.out.alloc (strs nine)).ext hx
    obtain⟨c0,c1,c2,c3,c4,f1,f2,f3,f4,hb⟩:=H1.facts
    obtain⟨t0,t1,t2,t3,hlb⟩:=H1.tokFacts
    rw[HT.out] at t0 t1 t2 t3;dsimp only at t0 t1 t2 t3
    obtain⟨s,hs⟩:∃ s,nine.getD j ⟨#[]⟩=s:=⟨_,rfl⟩
    rw[hs] at hcell;have HS:=Lib.hid hs;have HLT:=Lib.hid hlt;clear hx hno hlt hs H1 c2 c3 c4 f1 f2 f3 f4 t1 t3
    cases hk:(k==5)
    ·
      go_wp2_with fail;refine qaa 25 39 (List.replicate 25 false) zaf zaf rfl ?_;refine yac ?_
      repeat(refine Lex.step rfl ?_;intro K hK;unfold StepG;go_simp;(first
        | refine hK _ ?_);clear hK K)
      refine yaa ?_;intro dd oo;go_wp2_with fail;rw[ends_normal];go_wp2_with fail;go_roundw
      case rel=>exact⟨j+1,by go_num,by have:=HLT.out;omega,HX.out.more _ _,fun h=>by simp at h⟩
      case measure=>have:=HLT.out;simp[intOf];omega
    · cases hq:(ts.toList==s.toList)
      ·
        go_wp2_with fail;refine qaa 25 39 (List.replicate 25 false) zaf zaf rfl ?_;refine yac ?_
        repeat(refine Lex.step rfl ?_;intro K hK;unfold StepG;go_simp;(first
          | refine hK _ ?_);clear hK K)
        refine yaa ?_;intro dd oo;go_wp2_with fail;rw[ends_normal];go_wp2_with fail;go_roundw
        case rel=>exact⟨j+1,by go_num,by have:=HLT.out;omega,HX.out.more _ _,fun h=>by rw[nine_snoc _ _ (by rw[hnl];exact HLT.out),HS.out,HNO.out hk];simpa using hq⟩
        case measure=>have:=HLT.out;simp[intOf];omega
      · have RR:RowKit.Hid (true=B):=Lib.hid (by rw[←HB.out,hk,nine_done ts j (by rw[hnl];exact HLT.out) (by rw[HS.out];exact hq)];rfl)
        go_wp2_with fail;refine qaa 25 39 (List.replicate 25 false) zaf zaf rfl ?_;refine yac ?_
        repeat(refine Lex.step rfl ?_;intro K hK;unfold StepG;go_simp;(first
          | refine hK _ ?_);clear hK K)
        refine yaa ?_;intro dd oo;go_wp2_with fail;rw[ends_normal];go_wp2_with fail;go_ret
        exact⟨ret_bool RR.out,((Ext.refl _).alloc _).trans (HX.out.more _ _)⟩
  · have hge:(9:Int)≤(j:Int):=by omega
    have RR:RowKit.Hid (false=B):=Lib.hid (by
     rw[←HB.out]
     cases hk:(k==5)
     · rfl
     · have e:nine.take j=nine:=List.take_of_length_le (by rw[hnl];omega)
       have:=hno hk
       rw[e] at this
       rw[this];rfl)
    clear hx hno hlt;go_wp2_with fail;go_ret
    exact⟨ret_bool RR.out,((Ext.refl _).alloc _).trans HX.out⟩
end Go.Proofs.YtpnabjopfpdkhaaGreatDoor
