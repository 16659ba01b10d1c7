/- All walks. -/
import Derived.Test.YtddopjhkmkoicaaGreatDoorXFn3
