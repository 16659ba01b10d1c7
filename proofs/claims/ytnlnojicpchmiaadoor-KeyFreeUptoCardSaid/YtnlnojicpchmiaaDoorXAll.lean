/- All walks. -/
import Derived.Test.YtnlnojicpchmiaaDoorXFn4
