/- All walks. -/
import Derived.Test.YtddopjhkmkoicaaGreatDoorXFn4
