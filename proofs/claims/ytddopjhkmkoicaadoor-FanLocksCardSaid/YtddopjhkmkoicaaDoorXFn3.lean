/- Part of the proof of a law: functions and their walks. -/
import Derived.Test.YtddopjhkmkoicaaDoorXFn2
namespace Lv
open Go Go.Proofs
set_option linter.unusedVariables false
set_option linter.unusedSimpArgs false
set_option linter.unusedSectionVars false
set_option maxRecDepth 100000
variable [BaseTab] [TabOk]
/-- granary/granarylaw19.FanLocks -/
noncomputable def law19_FanLocks (p0 : ApiTable) (p1 : List FanBuilt) (p2 : List ApiValue) (p3 : List ApiValue) : Option Bool :=
  Option.bind law19_awake fun r948 =>
  bif (!r948) then
    some false
  else
    Option.bind (ref17_Check p0) fun r950 =>
    bif (r950 != (0 : Int)) then
      some true
    else
      Option.bind (ref17_Copy p0) fun r952 =>
      Option.bind (α := (List ApiIndex))
        (Option.bind (α := (List ApiIndex))
          (loop (Y := Int × (List ApiIndex)) (W := (List ApiIndex)) (fun (y967, y968) =>
            bif (decide (y967 < (y968.length : Int))) then
              Option.bind (getI y968 y967) fun v974 =>
              some (Sum.inl ((w64 (y967 + (1 : Int))), (List.set y968 y967.toNat (ApiIndex.mk v974.Name v974.Parts v974.Extra v974.Unique v974.Ready (w64 ((101 : Int) + y967))))))
            else
              some (Sum.inr y968)) ((0 : Int), r952))
          (fun e => some e))
        fun y964 =>
      Option.bind (fan_Change (ApiTable.mk p0.Name (([] : List ApiColumn) ++ p0.Cols) (([] : List Int) ++ p0.Primary) y964 (100 : Int)) p1 p2 p3) fun (r976, r977, r978, r979) =>
      bif (r976 != (0 : Int)) then
        Option.bind (α := Bool)
          (bif ((r977.length : Int) == (0 : Int)) then
            some ((r978.length : Int) == (0 : Int))
          else
            some false)
          fun y981 =>
        some y981
      else
        bindE (Y := Unit) (E := Bool)
          (Option.bind (α := Unit ⊕ Bool)
            (loop (Y := Int) (W := Unit ⊕ Bool) (fun y1505 =>
              bif (decide (y1505 < (r977.length : Int))) then
                bindE (Y := Unit) (E := Bool)
                  (Option.bind (α := Bool)
                    (Option.bind (getI r977 y1505) fun v1708 =>
                    bif (decide (v1708.Tree > (100 : Int))) then
                      Option.bind (getI r977 y1505) fun v1709 =>
                      Option.bind (getI y964 (w64 (v1709.Tree - (101 : Int)))) fun v1710 =>
                      some (!v1710.Ready)
                    else
                      some false)
                    fun y1706 =>
                  Option.bind (α := Bool)
                    (Option.bind (α := Bool)
                      (loop (Y := Bool × Int) (W := Bool) (fun (y1744, y1745) =>
                        bif (decide (y1745 < (r978.length : Int))) then
                          bif y1744 then
                            some (Sum.inl (true, (w64 (y1745 + (1 : Int)))))
                          else
                            Option.bind (getI r978 y1745) fun v1756 =>
                            bif v1756.Own then
                              Option.bind (getI r978 y1745) fun v1757 =>
                              Option.bind (getI r977 y1505) fun v1758 =>
                              bif (v1757.Space == v1758.Tree) then
                                Option.bind (getI r978 y1745) fun v1759 =>
                                Option.bind (getI r977 y1505) fun v1760 =>
                                Option.bind (fan_Point v1760.Msg.Key) fun _ =>
                                some (Sum.inl ((eqApiSpan v1759.Span (ApiSpan.mk v1760.Msg.Key (v1760.Msg.Key ++ ([0] : List UInt8)) false)), (w64 (y1745 + (1 : Int)))))
                              else
                                some (Sum.inl (false, (w64 (y1745 + (1 : Int)))))
                            else
                              some (Sum.inl (false, (w64 (y1745 + (1 : Int)))))
                        else
                          some (Sum.inr y1744)) (y1706, (0 : Int)))
                      (fun e => some e))
                    fun y1736 =>
                  Option.bind (α := Bool)
                    (bif (!y1736) then
                      some true
                    else
                      Option.bind (getI r977 y1505) fun v1766 =>
                      some (v1766.Kind != (1 : Int)))
                    fun y1764 =>
                  bif y1764 then
                    some (Sum.inr false)
                  else
                    some (Sum.inl ()))
                  (fun _ =>
                    some (Sum.inl (w64 (y1505 + (1 : Int)))))
                  (fun e => some (Sum.inr (Sum.inr e)))
              else
                some (Sum.inr (Sum.inl ()))) (0 : Int))
            (Sum.elim (fun e => some (Sum.inl e)) (fun e => some (Sum.inr e))))
          (fun _ =>
            bindE (Y := Int) (E := Bool)
              (Option.bind (α := Int ⊕ Bool)
                (loop (Y := Int × Int) (W := Int ⊕ Bool) (fun (y1849, y1850) =>
                  bif (decide (y1850 < (r978.length : Int))) then
                    bindE (Y := Int) (E := Bool)
                      (Option.bind (getI r978 y1850) fun v1883 =>
                      bif v1883.Own then
                        Option.bind (fan_Point v1883.Span.Lo) fun _ =>
                        bif (!(eqApiSpan v1883.Span (ApiSpan.mk v1883.Span.Lo (v1883.Span.Lo ++ ([0] : List UInt8)) false))) then
                          some (Sum.inr false)
                        else
                          some (Sum.inl y1849)
                      else
                        Option.bind (α := Bool)
                          (bif (decide (y1849 ≥ (r979.length : Int))) then
                            some true
                          else
                            Option.bind (getI r979 y1849) fun v1889 =>
                            bif (v1889.Tree != v1883.Space) then
                              some true
                            else
                              Option.bind (getI r979 y1849) fun v1890 =>
                              some (!(eqApiSpan v1890.Span v1883.Span)))
                          fun y1887 =>
                        bif y1887 then
                          some (Sum.inr false)
                        else
                          some (Sum.inl (w64 (y1849 + (1 : Int)))))
                      (fun y1881 =>
                        some (Sum.inl (y1881, (w64 (y1850 + (1 : Int))))))
                      (fun e => some (Sum.inr (Sum.inr e)))
                  else
                    some (Sum.inr (Sum.inl y1849))) ((0 : Int), (0 : Int)))
                (Sum.elim (fun e => some (Sum.inl e)) (fun e => some (Sum.inr e))))
              (fun y1829 =>
                Option.bind (α := Bool)
                  (bif (y1829 == (r979.length : Int)) then
                    some (decide ((r978.length : Int) > (0 : Int)))
                  else
                    some false)
                  fun y1892 =>
                some y1892)
              (fun e => some e))
          (fun e => some e)
theorem law19_FanLocks_ok (p0 : ApiTable) (p1 : List FanBuilt) (p2 : List ApiValue) (p3 : List ApiValue) (r : Bool) (h0 : law19_FanLocks p0 p1 p2 p3 = some r) : CallAt Tryd.prog 5 [.d (eApiTable p0), .d ((eL 2 eFanBuilt) p1), .d ((eL 3 eApiValue) p2), .d ((eL 3 eApiValue) p3)] [] (.d (eB r)) [] := by
  unfold law19_FanLocks at h0
  refine fn0 [0, 1, 2, 3] Tryd.func5 rfl rfl rfl rfl rfl ?_
  obtain ⟨r948, hq949, h0⟩ := ob h0
  refine sr (s1 (bxo (k := 0) rfl rfl rfl) (s1 (asg rfl) (sn (sq (sr (c0 (law19_awake_ok _ hq949) wf rfl rfl rfl cb6 rfl (fun _ => rfl) (fun _ => rfl) (s1 (nt rfl) (sn (cB h0 rfl (fun h0 => ?_) (fun h0 => ?_))))))))))
  · have q := si h0; subst q
    exact sr (s1 (asg rfl) (sn (SC.ret (finR (wc (e' := [(8, .d (eB false))]) [] [] (by kernel_rfl) rfl (by kernel_rfl)) (lresT rfl lresN) rfl))))
  · obtain ⟨r950, hq951, h0⟩ := ob h0
    refine sk (sq (sr (s1 (lod (v := .d (eApiTable p0)) rfl (ld_box ts26 ta26 rfl rfl)) (c0 (ref17_Check_ok p0 _ hq951) wf rfl rfl rfl cb7 rfl (fun _ => rfl) (fun _ => rfl) (s1 (bi rfl rfl q_i64_neq) (sn (cB h0 rfl (fun h0 => ?_) (fun h0 => ?_))))))))
    · have q := si h0; subst q
      exact sr (s1 (asg rfl) (sn (SC.ret (finR (wc (e' := [(8, .d (eB true))]) [] [] (by kernel_rfl) rfl (by kernel_rfl)) (lresT rfl lresN) rfl))))
    · obtain ⟨r952, hq953, h0⟩ := ob h0
      refine sk (sr (s1 (lod (v := .d (eApiTable p0)) rfl (ld_box ts26 ta26 rfl rfl)) (ca (r := .agg [.d (eS p0.Name), .slc 2 7 0 ((([] : List ApiColumn) ++ p0.Cols).length) none, .slc 3 1 0 ((([] : List Int) ++ p0.Primary).length) none, .slc 4 6 0 r952.length none, .d (eI p0.Tree)]) [] (ref17_Copy_ok p0 _ hq953) wf rfl rfl rfl cb8 rfl rfl rfl rfl rfl rfl (s0 (sto rfl rfl (sB (d' := .agg [.d (eS p0.Name), .slc 2 7 0 ((([] : List ApiColumn) ++ p0.Cols).length) none, .slc 3 1 0 ((([] : List Int) ++ p0.Primary).length) none, .slc 4 6 0 r952.length none, .d (eI p0.Tree)]) ts26 rfl rfl rfl rfl rfl rfl rfl)) (sn (sr (s1 (far (k := 4) rfl fo26_4 ts3 rfl) (s0 (sto (b := .d (eI (100 : Int))) rfl rfl (sB (d' := .agg [.d (eS p0.Name), .slc 2 7 0 ((([] : List ApiColumn) ++ p0.Cols).length) none, .slc 3 1 0 ((([] : List Int) ++ p0.Primary).length) none, .slc 4 6 0 r952.length none, .d (eI (100 : Int))]) ts3 rfl rfl rfl rfl rfl rfl rfl)) (sn ?_)))))))))
      refine SC.seqP h0 (fun y => ⟨mk 209 [(1, .d ((eL 2 eFanBuilt) p1)), (2, .d ((eL 3 eApiValue) p2)), (3, .d ((eL 3 eApiValue) p3)), (4, .ref 0 0 0)], [.box (.agg [.d (eS p0.Name), .slc 1 7 0 ((([] : List ApiColumn) ++ p0.Cols).length) none, .slc 2 1 0 ((([] : List Int) ++ p0.Primary).length) none, .slc 3 6 0 y.length none, .d (eI (100 : Int))]), .row 7 (List.map eApiColumn (([] : List ApiColumn) ++ p0.Cols)) true, .row 1 (List.map eI (([] : List Int) ++ p0.Primary)) true, .row 6 (List.map eApiIndex y) true]⟩) ?_ ?_
      · intro u1_965 h1
        obtain ⟨u2_973, h2, h1⟩ := ob h1
        refine sr (s1 (asg rfl) (sn (SC.blk (SC.loopB h2 (fun y => ⟨mk 209 [(1, .d ((eL 2 eFanBuilt) p1)), (2, .d ((eL 3 eApiValue) p2)), (3, .d ((eL 3 eApiValue) p3)), (4, .ref 0 0 0), (9, .d (eI y.1))], [.box (.agg [.d (eS p0.Name), .slc 1 7 0 ((([] : List ApiColumn) ++ p0.Cols).length) none, .slc 2 1 0 ((([] : List Int) ++ p0.Primary).length) none, .slc 3 6 0 y.2.length none, .d (eI (100 : Int))]), .row 7 (List.map eApiColumn (([] : List ApiColumn) ++ p0.Cols)) true, .row 1 (List.map eI (([] : List Int) ++ p0.Primary)) true, .row 6 (List.map eApiIndex y.2) true]⟩) (wc [0, 2, 3, 4] [0] (by kernel_rfl) rfl (by kernel_rfl)) ?_))))
        intro n975
        rintro ⟨y967, y968⟩ w2_972 h3 hv3
        refine sq (sr (s1 (mv rfl) (s1 (far (k := 3) rfl fo26_3 ts24 rfl) (s1 (lod rfl (ld_box ts24 ta24 rfl rfl)) (s1 (len rfl rfl rfl (len_slc un24)) (s1 (bi rfl rfl q_i64_lss) (sn (cB h3 rfl (fun h3 => ?_) (fun h3 => ?_)))))))))
        · obtain ⟨v974, hv974, h3⟩ := ob h3
          refine sk (sq (SC.blk (SC.region (s1 (far (k := 3) rfl fo26_3 ts24 rfl) (s1 (lod rfl (ld_box ts24 ta24 rfl rfl)) (s1 (mv rfl) (s1 (mv rfl) (s1 (bi rfl rfl q_i64_add) (s1 (iaz rfl rfl un24 ts42 (getI_lt hv974)) ?_)))))))))
          refine s1 (far (k := 5) rfl fo42_5 ts3 rfl) (s0 (sto (b := .d (eI (w64 ((101 : Int) + y967)))) rfl rfl (sF (f := eApiIndex) (v := (ApiIndex.mk v974.Name v974.Parts v974.Extra v974.Unique v974.Ready (w64 ((101 : Int) + y967)))) (ds := [(eI (w64 ((101 : Int) + y967)))]) ts3 rfl rfl rfl rfl (getI_some hv974).2 rfl rfl rfl rfl)) (SO.nil ?_))
          change SC _ _ _ _ _
          have q := si h3; subst q
          exact SC.region (s1 (mv rfl) (s1 (bi rfl rfl q_i64_add) (s1 (asg rfl) (SO.nil (lf (Wk.trans (wq (e' := [(1, .d ((eL 2 eFanBuilt) p1)), (2, .d ((eL 3 eApiValue) p2)), (3, .d ((eL 3 eApiValue) p3)), (4, .ref 0 0 0), (9, .d (eI (w64 (y967 + (1 : Int)))))]) rfl) (Wk.boxE (id := 0) (y := .agg [.d (eS p0.Name), .slc 1 7 0 ((([] : List ApiColumn) ++ p0.Cols).length) none, .slc 2 1 0 ((([] : List Int) ++ p0.Primary).length) none, .slc 3 6 0 ((List.set y968 y967.toNat (ApiIndex.mk v974.Name v974.Parts v974.Extra v974.Unique v974.Ready (w64 ((101 : Int) + y967)))).length) none, .d (eI (100 : Int))]) (σ' := [.box (.agg [.d (eS p0.Name), .slc 1 7 0 ((([] : List ApiColumn) ++ p0.Cols).length) none, .slc 2 1 0 ((([] : List Int) ++ p0.Primary).length) none, .slc 3 6 0 ((List.set y968 y967.toNat (ApiIndex.mk v974.Name v974.Parts v974.Extra v974.Unique v974.Ready (w64 ((101 : Int) + y967)))).length) none, .d (eI (100 : Int))]), .row 7 (List.map eApiColumn (([] : List ApiColumn) ++ p0.Cols)) true, .row 1 (List.map eI (([] : List Int) ++ p0.Primary)) true, .row 6 (List.map eApiIndex (List.set y968 y967.toNat (ApiIndex.mk v974.Name v974.Parts v974.Extra v974.Unique v974.Ready (w64 ((101 : Int) + y967))))) true]) rfl (AWs.cons (AW.refl _) (AWs.cons (AW.refl _) (AWs.cons (AW.refl _) (AWs.cons (AW.slc rfl (by simp)) (AWs.cons (AW.refl _) AWs.nil))))) rfl)))))))
        · have q := si h3; subst q; have q : _ = _ := hv3; subst q; have q := si h1; subst q
          exact SC.exit ((wq rfl))
      · rintro y964 h0
        obtain ⟨⟨r976, r977, r978, r979⟩, hq980, h0⟩ := ob h0
        refine sr (s1 (lod (v := .agg [.d (eS p0.Name), .slc 1 7 0 ((([] : List ApiColumn) ++ p0.Cols).length) none, .slc 2 1 0 ((([] : List Int) ++ p0.Primary).length) none, .slc 3 6 0 y964.length none, .d (eI (100 : Int))]) rfl (ld_box ts26 ta26 rfl rfl)) (s1 (mv rfl) (s1 (mv rfl) (s1 (mv rfl) (ca (r := .tuple [.agg [.slc 5 9 0 r977.length none, .slc 6 5 0 r978.length none, .slc 7 4 0 r979.length none], .d (eI r976)]) (args' := [.agg [.d (eS p0.Name), .slc 0 7 0 ((([] : List ApiColumn) ++ p0.Cols).length) none, .slc 1 1 0 ((([] : List Int) ++ p0.Primary).length) none, .slc 2 6 0 y964.length none, .d (eI (100 : Int))], .d ((eL 2 eFanBuilt) p1), .d ((eL 3 eApiValue) p2), .d ((eL 3 eApiValue) p3)]) (σc := [.row 7 (List.map eApiColumn (([] : List ApiColumn) ++ p0.Cols)) true, .row 1 (List.map eI (([] : List Int) ++ p0.Primary)) true, .row 6 (List.map eApiIndex y964) true]) (σ' := [.box (.agg [.d (eS p0.Name), .slc 1 7 0 ((([] : List ApiColumn) ++ p0.Cols).length) none, .slc 2 1 0 ((([] : List Int) ++ p0.Primary).length) none, .slc 3 6 0 y964.length none, .d (eI (100 : Int))]), .row 7 (List.map eApiColumn (([] : List ApiColumn) ++ p0.Cols)) false, .row 1 (List.map eI (([] : List Int) ++ p0.Primary)) false, .row 6 (List.map eApiIndex y964) false, .box (.agg [.slc 5 9 0 r977.length none, .slc 6 5 0 r978.length none, .slc 7 4 0 r979.length none]), .row 9 (List.map eForestOp r977) true, .row 5 (List.map eApiLock r978) true, .row 4 (List.map eFanProbe r979) true]) [1, 2, 3] (CallAt.frz (ArgF.frzw (y := .d (eApiTable (ApiTable.mk p0.Name (([] : List ApiColumn) ++ p0.Cols) (([] : List Int) ++ p0.Primary) y964 (100 : Int)))) rfl (frzs_d rfl (frzs_slc (fF rfl rfl rfl) (frzs_slc (fF rfl rfl rfl) (frzs_slc (fF rfl rfl rfl) (frzs_d rfl frzs_nil))))) (AW.aggd rfl (AWs.cons (AW.refl _) (AWs.cons (AW.refl _) (AWs.cons (AW.refl _) (AWs.cons (AW.refl _) (AWs.cons (AW.refl _) AWs.nil)))))) (ArgF.keep (ArgF.keep (ArgF.keep (ArgF.nil _))))) (fm (r := .tuple [.agg [.slc 4 9 0 r977.length none, .slc 5 5 0 r978.length none, .slc 6 4 0 r979.length none], .d (eI r976)]) [] (fan_Change_ok (ApiTable.mk p0.Name (([] : List ApiColumn) ++ p0.Cols) (([] : List Int) ++ p0.Primary) y964 (100 : Int)) p1 p2 p3 _ hq980) rfl rfl rfl rfl rfl rfl)) wf rfl rfl rfl cb10 rfl rfl rfl rfl rfl rfl ?_)))))
        refine s1 (mv rfl) (s1 (ext rfl rfl) (s1 (ext rfl rfl) (s1 (alo (k := 8) zo50 rfl) (s0 (sto rfl rfl (sB (d' := .agg [.slc 5 9 0 r977.length none, .slc 6 5 0 r978.length none, .slc 7 4 0 r979.length none]) ts50 rfl rfl rfl rfl rfl rfl rfl)) (s1 (asg rfl) (sn (sq (sr (s1 (mv rfl) ?_)))))))))
        refine s1 (bi rfl rfl q_i64_neq) (sn (cB h0 rfl (fun h0 => ?_) (fun h0 => ?_)))
        · refine SC.seqP h0 (fun y => ⟨mk 209 [(8, .d (eB y))], []⟩) ?_ ?_
          · intro u1_982 h1
            refine SC.region (s1 (far (k := 0) rfl fo50_0 ts46 rfl) (s1 (lod rfl (ld_box ts46 ta46 rfl rfl)) (s1 (len rfl rfl rfl (len_slc un46)) (s1 (bi rfl rfl q_i64_eql) (s1 (mv rfl) (sp h1 (fun h1 => ?_) (fun h1 => ?_)))))))
            · have q := si h1; subst q
              exact g1 (wb rfl rfl rfl) (far (k := 1) rfl fo50_1 ts47 rfl) (g1 (wb rfl rfl rfl) (lod rfl (ld_box ts47 ta47 rfl rfl)) (g1 (wb rfl rfl rfl) (len rfl rfl rfl (len_slc un47)) (g1 (wb rfl rfl rfl) (bi rfl rfl q_i64_eql) (s1 (pkt rfl rfl) (s1 (asg rfl) (SO.nil ((wc [] [] (by kernel_rfl) rfl (by kernel_rfl)))))))))
            · have q := si h1; subst q
              exact k1 (wb rfl rfl rfl) (k1 (wb rfl rfl rfl) (k1 (wb rfl rfl rfl) (k1 (wb rfl rfl rfl) (s1 (pkf rfl rfl) (s1 (asg rfl) (SO.nil ((wc [] [] (by kernel_rfl) rfl (by kernel_rfl)))))))))
          · rintro y981 h0
            have q := si h0; subst q
            exact SC.ret (finR (Wk.refl _) (lresT rfl lresN) rfl)
        · refine sk (SC.seqB h0 (fun y => ⟨mk 209 [(10, .ref 0 0 0)], [.box (.agg [.slc 1 9 0 r977.length none, .slc 2 5 0 r978.length none, .slc 3 4 0 r979.length none]), .row 9 (List.map eForestOp r977) true, .row 5 (List.map eApiLock r978) true, .row 4 (List.map eFanProbe r979) true]⟩) ?_ ?_)
          · intro u1_1375 h1 h0
            obtain ⟨u2_1637, h2, h1⟩ := ob h1
            refine sr (s1 (asg rfl) (sn (SC.blk (SC.loopB h2 (fun y => ⟨mk 209 [(4, .ref 0 0 0), (10, .ref 1 0 0), (12, .d (eI y))], [.box (.agg [.d (eS p0.Name), .slc 2 7 0 ((([] : List ApiColumn) ++ p0.Cols).length) none, .slc 3 1 0 ((([] : List Int) ++ p0.Primary).length) none, .slc 4 6 0 y964.length none, .d (eI (100 : Int))]), .box (.agg [.slc 5 9 0 r977.length none, .slc 6 5 0 r978.length none, .slc 7 4 0 r979.length none]), .row 7 (List.map eApiColumn (([] : List ApiColumn) ++ p0.Cols)) false, .row 1 (List.map eI (([] : List Int) ++ p0.Primary)) false, .row 6 (List.map eApiIndex y964) false, .row 9 (List.map eForestOp r977) true, .row 5 (List.map eApiLock r978) true, .row 4 (List.map eFanProbe r979) true]⟩) (wc [0, 8, 1, 2, 3, 5, 6, 7] [0, 8] (by kernel_rfl) rfl (by kernel_rfl)) ?_))))
            intro n1767
            rintro y1505 w2_1636 h3 hv3
            refine sq (sr (s1 (mv rfl) (s1 (far (k := 0) rfl fo50_0 ts46 rfl) (s1 (lod rfl (ld_box ts46 ta46 rfl rfl)) (s1 (len rfl rfl rfl (len_slc un46)) (s1 (bi rfl rfl q_i64_lss) (sn (cB h3 rfl (fun h3 => ?_) (fun h3 => ?_)))))))))
            · refine sk (SC.seqB h3 (fun y => ⟨mk 209 [(4, .ref 0 0 0), (10, .ref 1 0 0), (12, .d (eI y1505))], [.box (.agg [.d (eS p0.Name), .slc 2 7 0 ((([] : List ApiColumn) ++ p0.Cols).length) none, .slc 3 1 0 ((([] : List Int) ++ p0.Primary).length) none, .slc 4 6 0 y964.length none, .d (eI (100 : Int))]), .box (.agg [.slc 5 9 0 r977.length none, .slc 6 5 0 r978.length none, .slc 7 4 0 r979.length none]), .row 7 (List.map eApiColumn (([] : List ApiColumn) ++ p0.Cols)) false, .row 1 (List.map eI (([] : List Int) ++ p0.Primary)) false, .row 6 (List.map eApiIndex y964) false, .row 9 (List.map eForestOp r977) true, .row 5 (List.map eApiLock r978) true, .row 4 (List.map eFanProbe r979) true]⟩) ?_ ?_)
              · intro u4_1702 h4 h3
                refine SC.blk (SC.seqP h4 (fun y => ⟨mk 209 [(4, .ref 0 0 0), (10, .ref 1 0 0), (12, .d (eI y1505)), (13, .d (eB y))], [.box (.agg [.d (eS p0.Name), .slc 2 7 0 ((([] : List ApiColumn) ++ p0.Cols).length) none, .slc 3 1 0 ((([] : List Int) ++ p0.Primary).length) none, .slc 4 6 0 y964.length none, .d (eI (100 : Int))]), .box (.agg [.slc 5 9 0 r977.length none, .slc 6 5 0 r978.length none, .slc 7 4 0 r979.length none]), .row 7 (List.map eApiColumn (([] : List ApiColumn) ++ p0.Cols)) false, .row 1 (List.map eI (([] : List Int) ++ p0.Primary)) false, .row 6 (List.map eApiIndex y964) false, .row 9 (List.map eForestOp r977) true, .row 5 (List.map eApiLock r978) true, .row 4 (List.map eFanProbe r979) true]⟩) ?_ ?_)
                · intro u5_1707 h5
                  obtain ⟨v1708, hv1708, h5⟩ := ob h5
                  refine SC.draws (by kernel_rfl) (t1 ([], false) (far (k := 0) rfl fo50_0 ts46 rfl) rfl (t1 ([1], false) (lod rfl (ld_box ts46 ta46 rfl rfl)) rfl (t1 ([], false) (mv rfl) rfl (t1 ([], false) (iaz rfl rfl un46 ts63 (getI_lt hv1708)) rfl (t1 ([], false) (far (k := 1) rfl fo63_1 ts3 rfl) rfl (t1 ([5], false) (lod rfl (ld_row ts3 ta3 rfl (map_get (getI_some hv1708).2) rfl)) rfl (t1 ([], false) (bi rfl rfl q_i64_gtr) rfl (t1 ([], false) (mv rfl) rfl (tp h5 (fun h5 => ?_) (fun h5 => ?_))))))))))
                  · obtain ⟨v1709, hv1709, h5⟩ := ob h5; obtain ⟨v1710, hv1710, h5⟩ := ob h5; have q := si h5; subst q
                    refine u1 ([], false) (wb rfl rfl rfl) (far (k := 3) rfl fo26_3 ts24 rfl) rfl (u1 ([0], false) (wb rfl rfl rfl) (lod rfl (ld_box ts24 ta24 rfl rfl)) rfl (u1 ([], false) (wb rfl rfl rfl) (far (k := 0) rfl fo50_0 ts46 rfl) rfl (u1 ([1], false) (wb rfl rfl rfl) (lod rfl (ld_box ts46 ta46 rfl rfl)) rfl (u1 ([], false) (wb rfl rfl rfl) (mv rfl) rfl (u1 ([], false) (wb rfl rfl rfl) (iaz rfl rfl un46 ts63 (getI_lt hv1709)) rfl (u1 ([], false) (wb rfl rfl rfl) (far (k := 1) rfl fo63_1 ts3 rfl) rfl (u1 ([5], false) (wb rfl rfl rfl) (lod rfl (ld_row ts3 ta3 rfl (map_get (getI_some hv1709).2) rfl)) rfl (u1 ([], false) (wb rfl rfl rfl) (bi rfl rfl q_i64_sub) rfl (u1 ([], false) (wb rfl rfl rfl) (iaz rfl rfl un24 ts42 (getI_lt hv1710)) rfl ?_)))))))))
                    refine u1 ([], false) (wb rfl rfl rfl) (far (k := 4) rfl fo42_4 ts4 rfl) rfl (u1 ([4], false) (wb rfl rfl rfl) (lod rfl (ld_row ts4 ta4 rfl (map_get (getI_some hv1710).2) rfl)) rfl (u1 ([], false) (wb rfl rfl rfl) (nt rfl) rfl (t1 ([], false) (pkt rfl rfl) rfl (t1 ([], false) (asg rfl) rfl (ST.nil (And.intro (by decide +kernel) ?_))))))
                    exact (wq rfl)
                  · have q := si h5; subst q
                    refine j1 (wb rfl rfl rfl) (j1 (wb rfl rfl rfl) (j1 (wb rfl rfl rfl) (j1 (wb rfl rfl rfl) (j1 (wb rfl rfl rfl) (j1 (wb rfl rfl rfl) (j1 (wb rfl rfl rfl) (j1 (wb rfl rfl rfl) (j1 (wb rfl rfl rfl) (j1 (wb rfl rfl rfl) ?_)))))))))
                    refine j1 (wb rfl rfl rfl) (j1 (wb rfl rfl rfl) (j1 (wb rfl rfl rfl) (t1 ([], false) (pkf rfl rfl) rfl (t1 ([], false) (asg rfl) rfl (ST.nil (And.intro (by decide +kernel) ?_))))))
                    exact (wq rfl)
                · rintro y1706 h4
                  refine SC.seqP h4 (fun y => ⟨mk 209 [(4, .ref 0 0 0), (10, .ref 1 0 0), (12, .d (eI y1505)), (13, .d (eB y))], [.box (.agg [.d (eS p0.Name), .slc 2 7 0 ((([] : List ApiColumn) ++ p0.Cols).length) none, .slc 3 1 0 ((([] : List Int) ++ p0.Primary).length) none, .slc 4 6 0 y964.length none, .d (eI (100 : Int))]), .box (.agg [.slc 5 9 0 r977.length none, .slc 6 5 0 r978.length none, .slc 7 4 0 r979.length none]), .row 7 (List.map eApiColumn (([] : List ApiColumn) ++ p0.Cols)) false, .row 1 (List.map eI (([] : List Int) ++ p0.Primary)) false, .row 6 (List.map eApiIndex y964) false, .row 9 (List.map eForestOp r977) true, .row 5 (List.map eApiLock r978) true, .row 4 (List.map eFanProbe r979) true]⟩) ?_ ?_
                  · intro u5_1737 h5
                    obtain ⟨u6_1755, h6, h5⟩ := ob h5
                    refine sr (s1 (asg rfl) (sn (SC.blk (SC.loopB h6 (fun y => ⟨mk 209 [(4, .ref 0 0 0), (10, .ref 1 0 0), (12, .d (eI y1505)), (13, .d (eB y.1)), (14, .d (eI y.2))], [.box (.agg [.d (eS p0.Name), .slc 2 7 0 ((([] : List ApiColumn) ++ p0.Cols).length) none, .slc 3 1 0 ((([] : List Int) ++ p0.Primary).length) none, .slc 4 6 0 y964.length none, .d (eI (100 : Int))]), .box (.agg [.slc 5 9 0 r977.length none, .slc 6 5 0 r978.length none, .slc 7 4 0 r979.length none]), .row 7 (List.map eApiColumn (([] : List ApiColumn) ++ p0.Cols)) false, .row 1 (List.map eI (([] : List Int) ++ p0.Primary)) false, .row 6 (List.map eApiIndex y964) false, .row 9 (List.map eForestOp r977) true, .row 5 (List.map eApiLock r978) true, .row 4 (List.map eFanProbe r979) true]⟩) (wq rfl) ?_))))
                    intro n1762
                    rintro ⟨y1744, y1745⟩ w6_1754 h7 hv7
                    refine sq (sr (s1 (mv rfl) (s1 (far (k := 1) rfl fo50_1 ts47 rfl) (s1 (lod rfl (ld_box ts47 ta47 rfl rfl)) (s1 (len rfl rfl rfl (len_slc un47)) (s1 (bi rfl rfl q_i64_lss) (sn (cB h7 rfl (fun h7 => ?_) (fun h7 => ?_)))))))))
                    · refine sk (sq (SC.blk (SC.draws (by kernel_rfl) (t1 ([], false) (mv rfl) rfl (t1 ([], false) (mv rfl) rfl (tp h7 (fun h7 => ?_) (fun h7 => ?_)))))))
                      · refine j1 (wb rfl rfl rfl) (j1 (wb rfl rfl rfl) (j1 (wb rfl rfl rfl) (j1 (wb rfl rfl rfl) (j1 (wb rfl rfl rfl) (j1 (wb rfl rfl rfl) (j1 (wb rfl rfl rfl) (j1 (wo rfl rfl) (j1 (wo rfl rfl) (j1 (wo rfl rfl) ?_)))))))))
                        refine j1 (wo rfl rfl) (j1 (wo rfl rfl) (j1 (wo rfl rfl) (j1 (wo rfl rfl) (j1 (wo rfl rfl) (j1 (wo rfl rfl) (j1 (wo rfl rfl) (j1 (wo rfl rfl) (j1 (wo rfl rfl) (j1 (wo rfl rfl) ?_)))))))))
                        refine j1 (wb rfl rfl rfl) (j1 (wb rfl rfl rfl) (j1 (wo rfl rfl) (j1 (wo rfl rfl) (j1 (wo rfl rfl) (j1 (wo rfl rfl) (j1 (wo rfl rfl) (j1 (wo rfl rfl) (j1 (wo rfl rfl) (j1 (wo rfl rfl) ?_)))))))))
                        refine j1 (wo rfl rfl) (j1 (wo rfl rfl) (j1 (wo rfl rfl) (j1 (wo rfl rfl) (j1 (wo rfl rfl) (j1 (wo rfl rfl) (j1 (wo rfl rfl) (j1 (wb rfl rfl rfl) (t1 ([], false) (pkt rfl rfl) rfl (t1 ([], false) (asg rfl) rfl ?_)))))))))
                        refine ST.nil (And.intro (by decide +kernel) ?_)
                        change SC _ _ _ _ _
                        have q := si h7; subst q
                        exact SC.region (s1 (mv rfl) (s1 (bi rfl rfl q_i64_add) (s1 (asg rfl) (SO.nil (lf (wq rfl))))))
                      · obtain ⟨v1756, hv1756, h7⟩ := ob h7
                        refine u1 ([], false) (wb rfl rfl rfl) (far (k := 1) rfl fo50_1 ts47 rfl) rfl (u1 ([1], false) (wb rfl rfl rfl) (lod rfl (ld_box ts47 ta47 rfl rfl)) rfl (u1 ([], false) (wb rfl rfl rfl) (mv rfl) rfl (u1 ([], false) (wb rfl rfl rfl) (iaz rfl rfl un47 ts67 (getI_lt hv1756)) rfl (u1 ([], false) (wb rfl rfl rfl) (far (k := 4) rfl fo67_2 ts4 rfl) rfl (u1 ([6], false) (wb rfl rfl rfl) (lod rfl (ld_row ts4 ta4 rfl (map_get (getI_some hv1756).2) rfl)) rfl (u1 ([], false) (wb rfl rfl rfl) (mv rfl) rfl (tp h7 (fun h7 => ?_) (fun h7 => ?_))))))))
                        · obtain ⟨v1757, hv1757, h7⟩ := ob h7; obtain ⟨v1758, hv1758, h7⟩ := ob h7
                          refine u1 ([], false) (wb rfl rfl rfl) (far (k := 1) rfl fo50_1 ts47 rfl) rfl (u1 ([1], false) (wb rfl rfl rfl) (lod rfl (ld_box ts47 ta47 rfl rfl)) rfl (u1 ([], false) (wb rfl rfl rfl) (mv rfl) rfl (u1 ([], false) (wb rfl rfl rfl) (iaz rfl rfl un47 ts67 (getI_lt hv1757)) rfl (u1 ([], false) (wb rfl rfl rfl) (far (k := 0) rfl fo67_0 ts3 rfl) rfl (u1 ([6], false) (wb rfl rfl rfl) (lod rfl (ld_row ts3 ta3 rfl (map_get (getI_some hv1757).2) rfl)) rfl (u1 ([], false) (wb rfl rfl rfl) (far (k := 0) rfl fo50_0 ts46 rfl) rfl (u1 ([1], false) (wb rfl rfl rfl) (lod rfl (ld_box ts46 ta46 rfl rfl)) rfl (u1 ([], false) (wb rfl rfl rfl) (mv rfl) rfl (u1 ([], false) (wb rfl rfl rfl) (iaz rfl rfl un46 ts63 (getI_lt hv1758)) rfl ?_)))))))))
                          refine u1 ([], false) (wb rfl rfl rfl) (far (k := 1) rfl fo63_1 ts3 rfl) rfl (u1 ([5], false) (wb rfl rfl rfl) (lod rfl (ld_row ts3 ta3 rfl (map_get (getI_some hv1758).2) rfl)) rfl (u1 ([], false) (wb rfl rfl rfl) (bi rfl rfl q_i64_eql) rfl (u1 ([], false) (wb rfl rfl rfl) (pkt rfl rfl) rfl (u1 ([], false) (wb rfl rfl rfl) (mv rfl) rfl (tp h7 (fun h7 => ?_) (fun h7 => ?_))))))
                          · obtain ⟨v1759, hv1759, h7⟩ := ob h7; obtain ⟨v1760, hv1760, h7⟩ := ob h7; obtain ⟨_, hq1761, h7⟩ := ob h7
                            refine u1 ([], false) (wb rfl rfl rfl) (far (k := 1) rfl fo50_1 ts47 rfl) rfl (u1 ([1], false) (wb rfl rfl rfl) (lod rfl (ld_box ts47 ta47 rfl rfl)) rfl (u1 ([], false) (wb rfl rfl rfl) (mv rfl) rfl (u1 ([], false) (wb rfl rfl rfl) (iaz rfl rfl un47 ts67 (getI_lt hv1759)) rfl (u1 ([], false) (wb rfl rfl rfl) (far (k := 1) rfl fo67_1 ts65 rfl) rfl (u1 ([6], false) (wb rfl rfl rfl) (lod (v := .d (eApiSpan v1759.Span)) rfl (ld_row ts65 ta65 rfl (map_get (getI_some hv1759).2) rfl)) rfl (u1 ([], false) (wb rfl rfl rfl) (far (k := 0) rfl fo50_0 ts46 rfl) rfl (u1 ([1], false) (wb rfl rfl rfl) (lod rfl (ld_box ts46 ta46 rfl rfl)) rfl (u1 ([], false) (wb rfl rfl rfl) (mv rfl) rfl (u1 ([], false) (wb rfl rfl rfl) (iaz rfl rfl un46 ts63 (getI_lt hv1760)) rfl ?_)))))))))
                            refine u1 ([], false) (wb rfl rfl rfl) (far (k := 2) rfl fo63_2 ts61 rfl) rfl (u1 ([], false) (wb rfl rfl rfl) (far (k := 4) rfl fo61_2 ts9 rfl) rfl (u1 ([5], false) (wb rfl rfl rfl) (lod rfl (ld_row ts9 ta9 rfl (map_get (getI_some hv1760).2) rfl)) rfl (ta' [] ([8], true) (fan_Point_ok v1760.Msg.Key _ hq1761) (wb rfl rfl rfl) rfl rfl rfl cb14 rfl rfl rfl rfl rfl rfl rfl (u1 ([], false) (wb rfl rfl rfl) (bi (v := .d (eB (eqApiSpan v1759.Span (ApiSpan.mk v1760.Msg.Key (v1760.Msg.Key ++ ([0] : List UInt8)) false)))) rfl rfl (fun X Y => eqApiSpan_eql_65 X Y v1759.Span (ApiSpan.mk v1760.Msg.Key (v1760.Msg.Key ++ ([0] : List UInt8)) false))) rfl (u1 ([], false) (wb rfl rfl rfl) (pkt rfl rfl) rfl (t1 ([], false) (pkf rfl rfl) rfl (t1 ([], false) (asg rfl) rfl (ST.nil (And.intro (by decide +kernel) ?_)))))))))
                            change SC _ _ _ _ _
                            have q := si h7; subst q
                            exact SC.region (s1 (mv rfl) (s1 (bi rfl rfl q_i64_add) (s1 (asg rfl) (SO.nil (lf (wc [0, 1, 2, 3, 4, 5, 6, 7] [0, 1] (by kernel_rfl) rfl (by kernel_rfl)))))))
                          · refine j1 (wb rfl rfl rfl) (j1 (wb rfl rfl rfl) (j1 (wb rfl rfl rfl) (j1 (wb rfl rfl rfl) (j1 (wb rfl rfl rfl) (j1 (wb rfl rfl rfl) (j1 (wb rfl rfl rfl) (j1 (wb rfl rfl rfl) (j1 (wb rfl rfl rfl) (j1 (wb rfl rfl rfl) ?_)))))))))
                            refine j1 (wb rfl rfl rfl) (j1 (wb rfl rfl rfl) (j1 (wb rfl rfl rfl) (j1 (wb rfl rfl rfl) (j1 (wb rfl rfl rfl) (u1 ([], false) (wb rfl rfl rfl) (pkf rfl rfl) rfl (t1 ([], false) (pkf rfl rfl) rfl (t1 ([], false) (asg rfl) rfl (ST.nil (And.intro (by decide +kernel) ?_)))))))))
                            change SC _ _ _ _ _
                            have q := si h7; subst q
                            exact SC.region (s1 (mv rfl) (s1 (bi rfl rfl q_i64_add) (s1 (asg rfl) (SO.nil (lf (wq rfl))))))
                        · refine j1 (wb rfl rfl rfl) (j1 (wb rfl rfl rfl) (j1 (wb rfl rfl rfl) (j1 (wb rfl rfl rfl) (j1 (wb rfl rfl rfl) (j1 (wb rfl rfl rfl) (j1 (wb rfl rfl rfl) (j1 (wb rfl rfl rfl) (j1 (wb rfl rfl rfl) (j1 (wb rfl rfl rfl) ?_)))))))))
                          refine j1 (wb rfl rfl rfl) (j1 (wb rfl rfl rfl) (j1 (wb rfl rfl rfl) (u1 ([], false) (wb rfl rfl rfl) (pkf rfl rfl) rfl (u1 ([], false) (wb rfl rfl rfl) (mv rfl) rfl (j1 (wb rfl rfl rfl) (j1 (wb rfl rfl rfl) (j1 (wb rfl rfl rfl) (j1 (wb rfl rfl rfl) (j1 (wb rfl rfl rfl) ?_)))))))))
                          refine j1 (wb rfl rfl rfl) (j1 (wb rfl rfl rfl) (j1 (wb rfl rfl rfl) (j1 (wb rfl rfl rfl) (j1 (wb rfl rfl rfl) (j1 (wb rfl rfl rfl) (j1 (wb rfl rfl rfl) (j1 (wb rfl rfl rfl) (j1 (wb rfl rfl rfl) (j1 (wb rfl rfl rfl) ?_)))))))))
                          refine u1 ([], false) (wb rfl rfl rfl) (pkf rfl rfl) rfl (t1 ([], false) (pkf rfl rfl) rfl (t1 ([], false) (asg rfl) rfl (ST.nil (And.intro (by decide +kernel) ?_))))
                          change SC _ _ _ _ _
                          have q := si h7; subst q
                          exact SC.region (s1 (mv rfl) (s1 (bi rfl rfl q_i64_add) (s1 (asg rfl) (SO.nil (lf (wq rfl))))))
                    · have q := si h7; subst q; have q : _ = _ := hv7; subst q; have q := si h5; subst q
                      exact SC.exit ((wq rfl))
                  · rintro y1736 h4
                    refine SC.seqP h4 (fun y => ⟨mk 209 [(4, .ref 0 0 0), (10, .ref 1 0 0), (12, .d (eI y1505)), (147, .d (eB y))], [.box (.agg [.d (eS p0.Name), .slc 2 7 0 ((([] : List ApiColumn) ++ p0.Cols).length) none, .slc 3 1 0 ((([] : List Int) ++ p0.Primary).length) none, .slc 4 6 0 y964.length none, .d (eI (100 : Int))]), .box (.agg [.slc 5 9 0 r977.length none, .slc 6 5 0 r978.length none, .slc 7 4 0 r979.length none]), .row 7 (List.map eApiColumn (([] : List ApiColumn) ++ p0.Cols)) false, .row 1 (List.map eI (([] : List Int) ++ p0.Primary)) false, .row 6 (List.map eApiIndex y964) false, .row 9 (List.map eForestOp r977) true, .row 5 (List.map eApiLock r978) true, .row 4 (List.map eFanProbe r979) true]⟩) ?_ ?_
                    · intro u5_1765 h5
                      refine SC.region (s1 (mv rfl) (s1 (nt rfl) (s1 (mv rfl) (sp h5 (fun h5 => ?_) (fun h5 => ?_)))))
                      · have q := si h5; subst q
                        exact k1 (wb rfl rfl rfl) (k1 (wb rfl rfl rfl) (k1 (wb rfl rfl rfl) (k1 (wb rfl rfl rfl) (k1 (wb rfl rfl rfl) (k1 (wb rfl rfl rfl) (k1 (wb rfl rfl rfl) (s1 (pkt rfl rfl) (SO.nil ((wq rfl))))))))))
                      · obtain ⟨v1766, hv1766, h5⟩ := ob h5; have q := si h5; subst q
                        exact g1 (wb rfl rfl rfl) (far (k := 0) rfl fo50_0 ts46 rfl) (g1 (wb rfl rfl rfl) (lod rfl (ld_box ts46 ta46 rfl rfl)) (g1 (wb rfl rfl rfl) (mv rfl) (g1 (wb rfl rfl rfl) (iaz rfl rfl un46 ts63 (getI_lt hv1766)) (g1 (wb rfl rfl rfl) (far (k := 0) rfl fo63_0 ts3 rfl) (g1 (wb rfl rfl rfl) (lod rfl (ld_row ts3 ta3 rfl (map_get (getI_some hv1766).2) rfl)) (g1 (wb rfl rfl rfl) (bi rfl rfl q_i64_neq) (s1 (pkf rfl rfl) (SO.nil ((wq rfl))))))))))
                    · rintro y1764 h4
                      refine cB h4 rfl (fun h4 => ?_) (fun h4 => ?_)
                      · have q := si h4; subst q; have q := si h3; subst q; have q : _ = _ := hv3; subst q; have q := si h1; subst q; have q := si h0; subst q
                        exact sr (s1 (asg rfl) (sn (SC.ret (finR (wc (e' := [(8, .d (eB false))]) [] [] (by kernel_rfl) rfl (by kernel_rfl)) (lresT rfl lresN) rfl))))
                      · have q := si h4; subst q
                        exact SC.skip (lf (wq rfl))
              · intro _ h3
                have q := si h3; subst q
                exact SC.region (s1 (mv rfl) (s1 (bi rfl rfl q_i64_add) (s1 (asg rfl) (SO.nil (lf (wq rfl))))))
            · have q := si h3; subst q; have q : _ = _ := hv3; subst q; have q := si h1; subst q
              exact SC.exit (lf (wc [1, 5, 6, 7] [1] (by kernel_rfl) rfl (by kernel_rfl)))
          · intro _ h0
            refine sr (s1 (asg rfl) (sn (SC.seqB h0 (fun y => ⟨mk 209 [(10, .ref 0 0 0), (15, .d (eI y))], [.box (.agg [.slc 1 9 0 r977.length none, .slc 2 5 0 r978.length none, .slc 3 4 0 r979.length none]), .row 9 (List.map eForestOp r977) true, .row 5 (List.map eApiLock r978) true, .row 4 (List.map eFanProbe r979) true]⟩) ?_ ?_)))
            · intro u1_1830 h1 h0
              obtain ⟨u2_1872, h2, h1⟩ := ob h1
              refine sr (s1 (asg rfl) (sn (SC.blk (SC.loopB h2 (fun y => ⟨mk 209 [(10, .ref 0 0 0), (15, .d (eI y.1)), (16, .d (eI y.2))], [.box (.agg [.slc 1 9 0 r977.length none, .slc 2 5 0 r978.length none, .slc 3 4 0 r979.length none]), .row 9 (List.map eForestOp r977) true, .row 5 (List.map eApiLock r978) true, .row 4 (List.map eFanProbe r979) true]⟩) (wq rfl) ?_))))
              intro n1891
              rintro ⟨y1849, y1850⟩ w2_1871 h3 hv3
              refine sq (sr (s1 (mv rfl) (s1 (far (k := 1) rfl fo50_1 ts47 rfl) (s1 (lod rfl (ld_box ts47 ta47 rfl rfl)) (s1 (len rfl rfl rfl (len_slc un47)) (s1 (bi rfl rfl q_i64_lss) (sn (cB h3 rfl (fun h3 => ?_) (fun h3 => ?_)))))))))
              · refine sk (SC.seqB h3 (fun y => ⟨mk 209 [(10, .ref 0 0 0), (15, .d (eI y)), (16, .d (eI y1850))], [.box (.agg [.slc 1 9 0 r977.length none, .slc 2 5 0 r978.length none, .slc 3 4 0 r979.length none]), .row 9 (List.map eForestOp r977) true, .row 5 (List.map eApiLock r978) true, .row 4 (List.map eFanProbe r979) true]⟩) ?_ ?_)
                · intro u4_1882 h4 h3
                  obtain ⟨v1883, hv1883, h4⟩ := ob h4
                  refine SC.blk (sr (s1 (far (k := 1) rfl fo50_1 ts47 rfl) (s1 (lod rfl (ld_box ts47 ta47 rfl rfl)) (s1 (mv rfl) (s1 (iaz rfl rfl un47 ts67 (getI_lt hv1883)) (s1 (lod (v := .d (eApiLock v1883)) rfl (ld_row ts67 ta67 rfl (map_get (getI_some hv1883).2) rfl)) (s1 (alo (k := 4) zo67 rfl) (s0 (sto rfl rfl (sB (d' := .d (eApiLock v1883)) ts67 rfl rfl rfl rfl rfl rfl rfl)) (sn ?_)))))))))
                  refine sq (sr (s1 (far (k := 4) rfl fo67_2 ts4 rfl) (s1 (lod rfl (ld_box ts4 ta4 rfl rfl)) (sn (cB h4 rfl (fun h4 => ?_) (fun h4 => ?_))))))
                  · obtain ⟨_, hq1884, h4⟩ := ob h4
                    refine sq (sd (by kernel_rfl) (t1 ([], false) (far (k := 1) rfl fo67_1 ts65 rfl) rfl (t1 ([4], false) (lod (v := .d (eApiSpan v1883.Span)) rfl (ld_box ts65 ta65 rfl rfl)) rfl (t1 ([], false) (far (k := 1) rfl fo67_1 ts65 rfl) rfl (t1 ([], false) (far (k := 1) rfl fo65_0 ts9 rfl) rfl (t1 ([4], false) (lod rfl (ld_box ts9 ta9 rfl rfl)) rfl (ta' [] ([5], true) (fan_Point_ok v1883.Span.Lo _ hq1884) wf rfl rfl rfl cb14 rfl rfl rfl rfl rfl rfl rfl (t1 ([], false) (bi (v := .d (eB (!(eqApiSpan v1883.Span (ApiSpan.mk v1883.Span.Lo (v1883.Span.Lo ++ ([0] : List UInt8)) false))))) rfl rfl (fun X Y => eqApiSpan_neq_65 X Y v1883.Span (ApiSpan.mk v1883.Span.Lo (v1883.Span.Lo ++ ([0] : List UInt8)) false))) rfl (tn (by decide +kernel) ?_)))))))))
                    refine cB h4 rfl (fun h4 => ?_) (fun h4 => ?_)
                    · have q := si h4; subst q; have q := si h3; subst q; have q : _ = _ := hv3; subst q; have q := si h1; subst q; have q := si h0; subst q
                      exact sr (s1 (asg rfl) (sn (SC.ret (finR (wc (e' := [(8, .d (eB false))]) [] [] (by kernel_rfl) rfl (by kernel_rfl)) (lresT rfl lresN) rfl))))
                    · have q := si h4; subst q
                      exact sk (SC.exit (lf (wc [0, 1, 2, 3] [0] (by kernel_rfl) rfl (by kernel_rfl))))
                  · refine sk (sq (SC.seqP h4 (fun y => ⟨mk 209 [(10, .ref 0 0 0), (15, .d (eI y1849)), (16, .d (eI y1850)), (195, .d (eB y))], [.box (.agg [.slc 1 9 0 r977.length none, .slc 2 5 0 r978.length none, .slc 3 4 0 r979.length none]), .row 9 (List.map eForestOp r977) true, .row 5 (List.map eApiLock r978) true, .row 4 (List.map eFanProbe r979) true]⟩) ?_ ?_))
                    · intro u5_1888 h5
                      refine SC.draws (by kernel_rfl) (t1 ([], false) (mv rfl) rfl (t1 ([], false) (far (k := 2) rfl fo50_2 ts48 rfl) rfl (t1 ([0], false) (lod rfl (ld_box ts48 ta48 rfl rfl)) rfl (t1 ([], false) (len rfl rfl rfl (len_slc un48)) rfl (t1 ([], false) (bi rfl rfl q_i64_geq) rfl (t1 ([], false) (mv rfl) rfl (tp h5 (fun h5 => ?_) (fun h5 => ?_))))))))
                      · have q := si h5; subst q
                        refine j1 (wb rfl rfl rfl) (j1 (wb rfl rfl rfl) (j1 (wb rfl rfl rfl) (j1 (wb rfl rfl rfl) (j1 (wb rfl rfl rfl) (j1 (wb rfl rfl rfl) (j1 (wb rfl rfl rfl) (j1 (wb rfl rfl rfl) (j1 (wb rfl rfl rfl) (t1 ([], false) (pkt rfl rfl) rfl ?_)))))))))
                        refine t1 ([], false) (mv rfl) rfl (j1 (wb rfl rfl rfl) (j1 (wb rfl rfl rfl) (j1 (wb rfl rfl rfl) (j1 (wb rfl rfl rfl) (j1 (wb rfl rfl rfl) (j1 (wb rfl rfl rfl) (j1 (wb rfl rfl rfl) (j1 (wb rfl rfl rfl) (j1 (wb rfl rfl rfl) ?_)))))))))
                        refine t1 ([], false) (pkt rfl rfl) rfl (ST.nil (And.intro (by decide +kernel) ?_))
                        exact (wc [0, 1, 2, 3] [0] (by kernel_rfl) rfl (by kernel_rfl))
                      · obtain ⟨v1889, hv1889, h5⟩ := ob h5
                        refine u1 ([], false) (wb rfl rfl rfl) (far (k := 2) rfl fo50_2 ts48 rfl) rfl (u1 ([0], false) (wb rfl rfl rfl) (lod rfl (ld_box ts48 ta48 rfl rfl)) rfl (u1 ([], false) (wb rfl rfl rfl) (mv rfl) rfl (u1 ([], false) (wb rfl rfl rfl) (iaz rfl rfl un48 ts70 (getI_lt hv1889)) rfl (u1 ([], false) (wb rfl rfl rfl) (far (k := 0) rfl fo70_0 ts3 rfl) rfl (u1 ([3], false) (wb rfl rfl rfl) (lod rfl (ld_row ts3 ta3 rfl (map_get (getI_some hv1889).2) rfl)) rfl (u1 ([], false) (wb rfl rfl rfl) (far (k := 0) rfl fo67_0 ts3 rfl) rfl (u1 ([4], false) (wb rfl rfl rfl) (lod rfl (ld_box ts3 ta3 rfl rfl)) rfl (u1 ([], false) (wb rfl rfl rfl) (bi rfl rfl q_i64_neq) rfl (t1 ([], false) (pkf rfl rfl) rfl ?_)))))))))
                        refine t1 ([], false) (mv rfl) rfl (tp h5 (fun h5 => ?_) (fun h5 => ?_))
                        · have q := si h5; subst q
                          refine j1 (wb rfl rfl rfl) (j1 (wb rfl rfl rfl) (j1 (wb rfl rfl rfl) (j1 (wb rfl rfl rfl) (j1 (wb rfl rfl rfl) (j1 (wb rfl rfl rfl) (j1 (wb rfl rfl rfl) (j1 (wb rfl rfl rfl) (j1 (wb rfl rfl rfl) (t1 ([], false) (pkt rfl rfl) rfl ?_)))))))))
                          refine ST.nil (And.intro (by decide +kernel) ?_)
                          exact (wc [0, 1, 2, 3] [0] (by kernel_rfl) rfl (by kernel_rfl))
                        · obtain ⟨v1890, hv1890, h5⟩ := ob h5; have q := si h5; subst q
                          refine u1 ([], false) (wb rfl rfl rfl) (far (k := 2) rfl fo50_2 ts48 rfl) rfl (u1 ([0], false) (wb rfl rfl rfl) (lod rfl (ld_box ts48 ta48 rfl rfl)) rfl (u1 ([], false) (wb rfl rfl rfl) (mv rfl) rfl (u1 ([], false) (wb rfl rfl rfl) (iaz rfl rfl un48 ts70 (getI_lt hv1890)) rfl (u1 ([], false) (wb rfl rfl rfl) (far (k := 1) rfl fo70_1 ts65 rfl) rfl (u1 ([3], false) (wb rfl rfl rfl) (lod (v := .d (eApiSpan v1890.Span)) rfl (ld_row ts65 ta65 rfl (map_get (getI_some hv1890).2) rfl)) rfl (u1 ([], false) (wb rfl rfl rfl) (far (k := 1) rfl fo67_1 ts65 rfl) rfl (u1 ([4], false) (wb rfl rfl rfl) (lod (v := .d (eApiSpan v1883.Span)) rfl (ld_box ts65 ta65 rfl rfl)) rfl (u1 ([], false) (wb rfl rfl rfl) (bi (v := .d (eB (!(eqApiSpan v1890.Span v1883.Span)))) rfl rfl (fun X Y => eqApiSpan_neq_65 X Y v1890.Span v1883.Span)) rfl (t1 ([], false) (pkf rfl rfl) rfl ?_)))))))))
                          refine ST.nil (And.intro (by decide +kernel) ?_)
                          exact (wc [0, 1, 2, 3] [0] (by kernel_rfl) rfl (by kernel_rfl))
                    · rintro y1887 h4
                      refine cB h4 rfl (fun h4 => ?_) (fun h4 => ?_)
                      · have q := si h4; subst q; have q := si h3; subst q; have q : _ = _ := hv3; subst q; have q := si h1; subst q; have q := si h0; subst q
                        exact sr (s1 (asg rfl) (sn (SC.ret (finR (wc (e' := [(8, .d (eB false))]) [] [] (by kernel_rfl) rfl (by kernel_rfl)) (lresT rfl lresN) rfl))))
                      · have q := si h4; subst q
                        exact sk (SC.region (s1 (mv rfl) (s1 (bi rfl rfl q_i64_add) (s1 (asg rfl) (SO.nil (lf (wq rfl)))))))
                · rintro y1881 h3
                  have q := si h3; subst q
                  exact SC.region (s1 (mv rfl) (s1 (bi rfl rfl q_i64_add) (s1 (asg rfl) (SO.nil (lf (wq rfl))))))
              · have q := si h3; subst q; have q : _ = _ := hv3; subst q; have q := si h1; subst q
                exact SC.exit (lf (wq rfl))
            · rintro y1829 h0
              refine SC.seqP h0 (fun y => ⟨mk 209 [(8, .d (eB y))], []⟩) ?_ ?_
              · intro u1_1893 h1
                refine SC.region (s1 (mv rfl) (s1 (far (k := 2) rfl fo50_2 ts48 rfl) (s1 (lod rfl (ld_box ts48 ta48 rfl rfl)) (s1 (len rfl rfl rfl (len_slc un48)) (s1 (bi rfl rfl q_i64_eql) (s1 (mv rfl) (sp h1 (fun h1 => ?_) (fun h1 => ?_))))))))
                · have q := si h1; subst q
                  exact g1 (wb rfl rfl rfl) (far (k := 1) rfl fo50_1 ts47 rfl) (g1 (wb rfl rfl rfl) (lod rfl (ld_box ts47 ta47 rfl rfl)) (g1 (wb rfl rfl rfl) (len rfl rfl rfl (len_slc un47)) (g1 (wb rfl rfl rfl) (bi rfl rfl q_i64_gtr) (s1 (pkt rfl rfl) (s1 (asg rfl) (SO.nil ((wc [] [] (by kernel_rfl) rfl (by kernel_rfl)))))))))
                · have q := si h1; subst q
                  exact k1 (wb rfl rfl rfl) (k1 (wb rfl rfl rfl) (k1 (wb rfl rfl rfl) (k1 (wb rfl rfl rfl) (s1 (pkf rfl rfl) (s1 (asg rfl) (SO.nil ((wc [] [] (by kernel_rfl) rfl (by kernel_rfl)))))))))
              · rintro y1892 h0
                have q := si h0; subst q
                exact SC.ret (finR (Wk.refl _) (lresT rfl lresN) rfl)
end Lv
